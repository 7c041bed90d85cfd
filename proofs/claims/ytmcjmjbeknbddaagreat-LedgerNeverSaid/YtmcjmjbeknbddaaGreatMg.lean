/-
  Parts of the proof, one behind the other.
-/
import Derived.Test.YtmcjmjbeknbddaaGreatMf
import Derived.Lib.Overlaps
import Derived.Lib.AppendZerosOnto
import Derived.Laws.NewBlocks
import Derived.Deep.RegionLaw
import Derived.Lib.AppendZeros
import Derived.Maps.OwnIn
import Derived.RegionTactic
import Derived.Deep.MidRow
set_option linter.all false
set_option maxRecDepth 100000
set_option maxHeartbeats 4000000
open Go Go.RowKit
variable {T α σ ρ β:Type} {P:Program} {ad:Addr} {arr cs cur:Array Value} {f:FuncId} {x a y day:Int} {k:IntKind} {l:List Int} {xs vs news:List Value} {off i n b c d j B m len:Nat} {F F' K:Nat->Prop} {R g R':Nat->Value->Prop} {o:Oper} {p:Prop} {e ety t ty el:TypeId} {v u vx:Value} {w w' W' W:World}
namespace Go.Proofs.YtmcjmjbeknbddaaGreat
open Go Go.Ab Go.RowKit Go.Proofs Tryz
open Go.Ab.Fr renaming val->Jv,need->Jd,br->Jb
abbrev qn:Ty:=.pair (.fc none) (.pair (.fc (some 172)) (.pair (.fc (some 173)) (.pair (.fc (some 174)) (.pair (.fc (some 175)) (.pair (.fc (some 176)) .unit)))))
noncomputable def UI:List (FuncId×Row):=[(172,.upd aJ [i64] (λx y=>(y.1,x.2.1,x.2.2.1,x.2.2.2.1,x.2.2.2.2.1,x.2.2.2.2.2.1,()))),(173,.upd aJ [i64] (λx y=>(x.1,I6.wrap (x.2.1+y.1),x.2.2.1,x.2.2.2.1,x.2.2.2.2.1,x.2.2.2.2.2.1,()))),(174,.upd aJ [i64] (λx y=>(x.1,x.2.1,x.2.2.1,I6.wrap (x.2.2.2.1+y.1),x.2.2.2.2.1,x.2.2.2.2.2.1,()))),(175,.upd aJ [i64] (λx _=>(x.1,x.2.1,x.2.2.1,x.2.2.2.1,x.2.2.2.2.1,false,()))),(176,.upd aJ [i64] (λx _=>(x.1,x.2.1,x.2.2.1,x.2.2.2.1,x.2.2.2.2.1,true,())))]
noncomputable def XW:Cx:=l8 [(91,gV)] [] UI (λ_ _ _ _=>none)
def Mh:CxOK prog XW:=mI (cs:=[(91,gV)]) (ps:=[]) (rs:=UI) aG ⟨W7,uT⟩ trivial ⟨qmu,qwa,qw5,qdw,qw9,uT⟩ (λ_ _ _ _ _ h=>(nomatch h))
abbrev rT:Pt:=⟨28,0,⟨[(12,.d i64),(11,.d i64),(10,.d (.sl bn))],[.x 2 265 aJ,.r 2 2 0,.x 3 328 qn,.r 3 3 0,.x 4 265 aJ,.r 4 4 0]⟩,⟨[],[.x 2 265 aJ,.r 2 2 0,.x 4 265 aJ,.r 4 4 0]⟩,⟨[],[]⟩⟩
abbrev zi:Type:=ag []×cR [.x 2 265 aJ,.r 2 2 0,.x 3 328 qn,.r 3 3 0,.x 4 265 aJ,.r 4 4 0]
def mq (e:bn.den) (s:zi):Fr zi:=
 let d:=((),(),(),(),(),(),());let c:=s.2.2.2.1;let a:=c.2;let b:=a.2.2;Jb (gV.f (e.2.1,1,5,())).1 (Jd (0<=e.2.1/\e.2.1<(6:Int)) (Jd ((List.find? (λx_1=>x_1.1==e.2.1) (ji 0 (List.take 6 (List.drop 0 (List.drop 0 (enc qn s.2.2.1)))))).isSome=true) (Jd (e.2.1≠0+1->av [e.2.1≠0+1+1->av [e.2.1≠0+1+1+1->av [e.2.1≠0+1+1+1+1->av [e.2.1=0+1+1+1+1+1]]]]) (Jv ((),s.2.1,d,(bif e.2.1==0+1 then (e.2.2.1,a.1,a.2.1,b.1,b.2.1,b.2.2.1,()) else bif e.2.1==0+1+1 then (c.1,I6.wrap (a.1+e.2.2.1),a.2.1,b.1,b.2.1,b.2.2.1,()) else bif e.2.1==0+1+1+1 then (c.1,a.1,a.2.1,I6.wrap (b.1+e.2.2.1),b.2.1,b.2.2.1,()) else bif e.2.1==0+1+1+1+1 then (c.1,a.1,a.2.1,b.1,b.2.1,false,()) else (c.1,a.1,a.2.1,b.1,b.2.1,true,())),()))))) (Jv ((),s.2.1,d,c,()))
def pX (x:rT.M.X):Int×List bn.den×zi:=(x.1.1,x.1.2.2.1,x.1.2.2.2,x.2)
def Rl (x:rT.M.X):Prop:=x.1.2.1=(x.1.2.2.1.length:Int)
def TG (s:zi):rT.E.X:=((),s.2.1,s.2.2.2.1,())
def qs5:ae prog (.loop (au f125 0)) rT.M rT (FF mq pX Rl TG):=
 LF Mh (λ_ _=>.n .o) bn.dflt (λx=>x.1.2.1) (λx s=>((I6.wrap (x.1.1+1),x.1.2.1,x.1.2.2.1,s.1),s.2)) (λ_ h=>h)
def qxk (y:rT.M.X):zi:=kJ mq ((pX y).2.1.drop (pX y).1.toNat) (pX y).2.2
def qu4 (y:rT.M.X):Prop:=pg mq ((pX y).2.1.drop (pX y).1.toNat) (pX y).2.2
def qka (x:ag [.d ar]):Fr (aa [aJ]):=
 let a:=((0,((List.length x.1.2.1):Int),x.1.2.1,()),(0,0,0,0,0,false,()),((),(),(),(),(),(),()),(0,0,0,0,0,true,()),());Jd (InL (Rl a) (pX a)) (Jd (qu4 a) (Jv ((TG (qxk a)).2.2.1,())))
def qkb:af prog 125 (bg [.d ar] [aJ] qka):=
 cS Mh qs5
def m8 (p:aJ.den) (a:bn.den):aJ.den:=
 bif qc a.2.1 1 5 then (bif a.2.1==1 then (a.2.2.1,p.2) else bif a.2.1==2 then (p.1,I6.wrap (p.2.1+a.2.2.1),p.2.2) else bif a.2.1==3 then (p.1,p.2.1,p.2.2.1,I6.wrap (p.2.2.2.1+a.2.2.1),p.2.2.2.2)
  else bif a.2.1==4 then (p.1,p.2.1,p.2.2.1,p.2.2.2.1,p.2.2.2.2.1,false,()) else (p.1,p.2.1,p.2.2.1,p.2.2.2.1,p.2.2.2.2.1,true,())) else p
def nD (g:ar.den):aJ.den:=g.2.1.foldl m8 (0,0,0,0,0,true,())
def qva {k:Int} (h:1<=k/\k<=5):k=1\/k=2\/k=3\/k=4\/k=5:=by omega
def KW (e:bn.den) (q p:aJ.den) (u:qn.den):(mq e ((),q,u,p,())).ok/\(mq e ((),q,u,p,())).get=((),q,u,m8 p e,()):=by
 obtain⟨b,k,m,_⟩:=e;cases hw:qc k 1 5
 ·have ha:m8 p (b,k,m,())=p:=by unfold m8; rw[show qc (b,k,m,()).2.1 1 5=false from hw]; rfl
  rw[ha];exact aR hw ⟨uT,rfl⟩
 ·have h15:=zc9.1 hw;have hk:=qva h15;have ha:∀ z,(m8 p (b,k,m,())=z)=((bif k==1 then (m,p.2) else bif k==2 then (p.1,I6.wrap (p.2.1+m),p.2.2) else bif k==3 then (p.1,p.2.1,p.2.2.1,I6.wrap (p.2.2.2.1+m),p.2.2.2.2)
  else bif k==4 then (p.1,p.2.1,p.2.2.1,p.2.2.2.1,p.2.2.2.2.1,false,()) else (p.1,p.2.1,p.2.2.1,p.2.2.2.1,p.2.2.2.2.1,true,()):aJ.den)=z):=λz=>by
   unfold m8; rw[show qc (b,k,m,()).2.1 1 5=true from hw]; rfl
  refine aZ hw ?_;rcases hk with rfl|rfl|rfl|rfl|rfl <;>
   exact aF (by first|exact(by decide:(0:Int)<=1/\(1:Int)<6)|exact(by decide:(0:Int)<=2/\(2:Int)<6)|exact(by decide:(0:Int)<=3/\(3:Int)<6)|exact(by decide:(0:Int)<=4/\(4:Int)<6)|exact(by decide:(0:Int)<=5/\(5:Int)<6)) (aF (by kernel_rfl) (aF (by simp[av]) ⟨uT,by rw[uec]; exact⟨rfl,by rw[eq_comm] ; rfl⟩⟩))
def Vv (q:aJ.den) (u:qn.den):(l:List bn.den)->(p:aJ.den)->kJ mq l ((),q,u,p,())=((),q,u,l.foldl m8 p,())
 |[],_=>rfl
 |e::l,p=>by
  show kJ mq l (mq e ((),q,u,p,())).get=_;rw[(KW e q p u).2];exact Vv q u l (m8 p e)
def Vx (q:aJ.den) (u:qn.den):(l:List bn.den)->(p:aJ.den)->pg mq l ((),q,u,p,())
 |[],_=>trivial
 |e::l,p=>⟨(KW e q p u).1,by
  rw[(KW e q p u).2];exact Vx q u l (m8 p e)⟩
def qkq {g:ar.den} (h:bu w F ar g v):((List.length (α:=bn.den) g.2.1:Nat):Int)<=9223372036854775807:=by
 have h1:List.length g.2.1<=maxLen:=(aA.wf h.2.2).2.1.1;unfold maxLen at h1;omega
def ly:Ct:=⟨[.d ar],[aJ],λx=>(nD x.1,()),λ_=>[]⟩
abbrev Ph:aJ.den:=(0,0,0,0,0,false,())
abbrev Wn:qn.den:=((),(),(),(),(),(),())
def Vw:af prog 125 ly:=
 conv qkb _ _ (λw F x vs hr _=>by
  obtain⟨g,_⟩:=x;obtain⟨v,vs',rfl,hv,_⟩:=hr;have hlen:=qkq hv;refine aF ⟨rfl,ue5 _,ub2 _,hlen⟩ (aF ?_ ⟨uT,?_⟩)
  ·exact Vx Ph Wn (List.drop 0 g.2.1) _
  ·show((kJ mq (List.drop 0 g.2.1) ((),Ph,Wn,(0,0,0,0,0,true,()),())).2.2.2.1,())=(nD g,());rw[ueb,Vv];rfl)
section
open Go.Shelf Go.Lib
def qnr:(prog.info? 40).map (λi=>(i.zero,i.size,i.bytes))=some (some (.agg #[.int .i64 0,.int .i64 0,.int .i64 0]),3,24):=by kernel_rfl
def qdq:CloneOK prog 232 40 bn 24:=by
 refine⟨enters_of func232 (by kernel_rfl) rfl,λw n c A xs hnc hA hxl hxc h1 h63 hby=>?_⟩;obtain⟨i0,hi0,hz0,hz1,hz2⟩:=ufg qnr;have hcmp:∀ (A:Option Addr) (n c:Nat),(binOp .eql 144 (.slice A n c) (.slice none 0 0)).run prog w = .ok (.bool A.isNone) w:=λA n c=>by
  have h1:binOp .eql 144 (.slice A n c) (.slice none 0 0)=(do pure (.bool (<- Op.equal 144 (.slice A n c) (.slice none 0 0)))):=rfl;have h2:Op.equal 144 (.slice A n c) (.slice none 0 0)=Op.equalIn (9999+1) 144 (.slice A n c) (.slice none 0 0):=rfl;rw[h1,h2];simp[JJ underlying144]
 go_enter func232,ntmps232
 cases A with
 |none=>
  have h0:=hA rfl;subst h0;have hx:xs=[]:=uab (by simpa using hxl);subst hx
  go_wp2_with (simp only[hcmp])
  go_ret
  exact⟨_,rfl,⟨rfl,rfl,rfl,ue4 _,λ_ _ _=>rfl⟩,ucq _ _ _ _⟩
 |some ad=>
  have hW:(w.alloc (.cells #[] 40)).ownsRow w.heap.size 40 3 (.slice (some ⟨w.heap.size,0,none⟩) 0 0) 0 []:=World.ownsRow_lit w #[] 0 (ue4 _) (by unfold maxLen; omega) rfl;have hcell:∀ (j:Nat) u,xs[j]? = some u->(w.alloc (.cells #[] 40)).cell? (ad.add j)=some u:=λj u hj=>by
   have h:=hxc ad rfl j u hj;have hb:=block_lt_of_cell h;rw[ubb (nY w _ _ hb)];exact h
  obtain⟨v',w',hr,e2,e3,e4⟩:=qr (P:=prog) (w:=w.alloc (.cells #[] 40)) (B:=w.heap.size) 144 144 40 i0 _ 3 underlying144 hi0 hz0 hz1 rfl (by decide) _ 0 [] hW (some ad) n c xs (λh=>by cases h) hxl (λad' e=>by cases e; exact hcell) h1 (by rw[uet]; exact h63) (by rw[hz2,uet]; exact hby) (by simp);have hr':∀ ty,(Builtin.append_ #[144,144] ty #[.slice (some ⟨w.heap.size,0,none⟩) 0 0,.slice (some ad) n c]).run prog (w.alloc (.cells #[] 40)) = .ok v' w':=λty=>hr;clear hr
  go_wp2_with (first|(simp only[hcmp]; done)|simp only[hcmp]|(at_builtin; refine Lib.wpList_append_run _ rfl _ _ _ _ rfl _ _ rfl rfl _ _ (hr' _) ?_))
  go_ret
  rw[uet,udi] at e2;refine⟨v',rfl,⟨e3.os,e3.tape,e3.output,uek (by simp) e3.size,λk hk _=>(e3.block k (by simp; omega) (λe=>?_)).trans (nY w _ k hk)⟩,e2⟩;have:k=w.heap.size:=by simpa[Value.ownBlock] using e
  omega
end
noncomputable def XX:Cx:=l8 [(125,ly),(54,tk),(231,A8)] [] [(232,.clone 40 bn 24)] (λ_ _ _ _=>none)
def XY:CxOK prog XX:=mI (cs:=[(125,ly),(54,tk),(231,A8)]) (ps:=[]) (rs:=[(232,.clone 40 bn 24)]) aG ⟨Vw,Oy,qpg,uT⟩ trivial ⟨qdq,uT⟩ (λ_ _ _ _ _ h=>(nomatch h))
def HM (x:ag [.d ar,.d bn]):Fr (aa [ar,i64]):=
 let h:=ly.f (x.1,());let c:=x.1.2.1;let g:=((x.1.1,c++[x.2.1],()),0,());let b:=((0,0,0,0,0,0,()),[],());let a:=bif x.2.1.2.1==2 then decide (x.2.1.2.2.1>I6.wrap (1000000000000000-h.1.2.1)) else false;Jb (!(tk.f (x.2.1,())).1) (Jv (b,1,())) (Jb (decide (((List.length c):Int)>=2000)) (Jv (b,2,())) (Jb (decide (x.2.1.1<(A8.f (x.1,())).1)) (Jv (b,4,())) (Jb (h.1.2.2.2.2.2.1==(x.2.1.2.1==5)) (Jv (b,10,())) (Jb a (Jb a (Jv (b,5,())) (Jd (List.length c<=maxLen) (Jd (List.length c*24<=140737488355328) (Jd (List.length c + [x.2.1].length<=maxLen/\(List.length c + [x.2.1].length)*24<=140737488355328) (Jv g))))) (Jb (bif x.2.1.2.1==3 then decide (x.2.1.2.2.1>I6.wrap (1000000000000000-h.1.2.2.2.1)) else false) (Jv (b,5,())) (Jd (List.length c<=maxLen) (Jd (List.length c*24<=140737488355328) (Jd (List.length c + [x.2.1].length<=maxLen/\(List.length c + [x.2.1].length)*24<=140737488355328) (Jv g)))))))))
def qit:af prog 219 (bg [.d ar,.d bn] [ar,i64] HM):=
 aS XY f219
abbrev xX:ar.den:=((0,0,0,0,0,0,()),[],())
def G2 (g:ar.den) (a:bn.den):Bool:=
 (bif a.2.1==2 then decide (a.2.2.1>I6.wrap (1000000000000000-(nD g).2.1)) else false) || (bif a.2.1==3 then decide (a.2.2.1>I6.wrap (1000000000000000-(nD g).2.2.2.1)) else false)
def o8 (g:ar.den) (a:bn.den):ar.den×Int:=
 bif !(qz a) then (xX,1) else bif decide (((List.length (α:=bn.den) g.2.1:Nat):Int)>=2000) then (xX,2) else bif decide (a.1<uz g) then (xX,4)
  else bif (nD g).2.2.2.2.2.1==(a.2.1==5) then (xX,10) else bif G2 g a then (xX,5) else ((g.1,g.2.1++[a],()),0)
def qu:Ct:=⟨[.d ar,.d bn],[ar,i64],λx=>((o8 x.1 x.2.1).1,(o8 x.1 x.2.1).2,()),λ_=>[]⟩
def qen (g:ar.den) (a:bn.den):(HM (g,a,())).ok/\(HM (g,a,())).get=((o8 g a).1,(o8 g a).2,()):=by
 unfold o8;cases h1:qz a
 ·exact aZ (by show(!(qz a))=true; rw[h1]; rfl) ⟨uT,rfl⟩
 refine aR (by show(!(qz a))=false; rw[h1]; rfl) ?_;cases h2:decide (((List.length g.2.1:Nat):Int)>=2000)
 rotate_left
 ·exact aZ rfl ⟨uT,rfl⟩
 refine aR rfl ?_;have hl:List.length g.2.1<2000:=by have:=ucf h2; omega
 have n1:List.length g.2.1<=maxLen:=by unfold maxLen; omega
 have n2:List.length g.2.1*24<=140737488355328:=by omega
 have n3:List.length g.2.1 + [a].length<=maxLen/\(List.length (α:=bn.den) g.2.1 + [a].length)*24<=140737488355328:=by
  rw[ua6];exact⟨by unfold maxLen; omega,by omega⟩
 cases h3:decide (a.1<uz g)
 rotate_left
 ·exact aZ h3 ⟨uT,rfl⟩
 refine aR h3 ?_;cases h4:(nD g).2.2.2.2.2.1==(a.2.1==5)
 rotate_left
 ·exact aZ h4 ⟨uT,rfl⟩
 refine aR h4 ?_;unfold G2;cases h5:(bif a.2.1==2 then decide (a.2.2.1>I6.wrap (1000000000000000-(nD g).2.1)) else false)
 rotate_left
 ·exact aZ h5 (aZ (by first|rfl|exact h5) ⟨uT,rfl⟩)
 refine aR h5 ?_;cases h6:(bif a.2.1==3 then decide (a.2.2.1>I6.wrap (1000000000000000-(nD g).2.2.2.1)) else false)
 rotate_left
 ·exact aZ h6 ⟨uT,rfl⟩
 exact aR h6 (aF n1 (aF n2 (aF n3 ⟨uT,rfl⟩)))
def OT:af prog 219 qu:=conv qit _ _ (λ_ _ x _ _ _=>qen x.1 x.2.1)
def X0:dm.den:=((1,101,()),(0,36500,0,0,()),[(1,1000,1000,0,10000,())],())
def bY.filter {key:α->Int} {l:List α} (h:bY key l) (p:α->Bool):bY key (l.filter p):=List.Pairwise.sublist List.filter_sublist h
def Good.all {p:List Int×List Int} {m:Int} (h:Good p m):∀ x∈p.1,x<=m:=by
 intro x hx;have hp:=(K1 h.up h.len).1;have hle:=h.le;have hne:p.1 ≠ []:=List.ne_nil_of_mem hx;rw[List.getLast?_eq_some_getLast hne] at hle;have hle':p.1.getLast hne<=m:=hle;have hs:p.1=p.1.dropLast++[p.1.getLast hne]:=(List.dropLast_concat_getLast hne).symm;rw[hs] at hx hp;rcases udo.1 hx with hx|hx
 ·have:=(ubn.1 hp).2.2 x hx _ (ucd.2 rfl);exact uep (Int.lt_of_lt_of_le this hle')
 ·rw[ucd.1 hx];exact hle'
def qhn {h:aC.den} {t:b8.den} (hf:mW h t=true):bL h/\bJ t:=by
 unfold mW at hf;simp only[uc9,ucs,uc5] at hf;obtain⟨⟨h1,h2,h3⟩,h4,h5⟩:=hf;refine⟨⟨by show h.2.2.2.1.length<=500000; omega,by omega,λc hc=>?_⟩,by omega,λv hv=>?_⟩
 ·have:c.2.2.2.2.1.length<=50:=ucv (h4 c hc);omega
 ·have:=h5 v hv;unfold tV at this;simp only[uc9,ucs] at this;exact⟨by omega,by omega,by omega⟩
def Fm (h:aC.den) (c:az.den):aC.den:=(h.1,h.2.1,h.2.2.1,([]++h.2.2.2.1)++[c],())
def D3 (n m:Nat):Prop:=n+m<=maxLen/\(n+m)*prog.types[36].bytes<=140737488355328
def OF:prog.types[36].bytes<=1000:=by decide
def fh.mem {st:Int->sD} {b:Int}:{a:Int} -> {l:List aB.den}->fh st b a l->∀ s∈l,a<=s.1.1/\s.1.1<s.1.2.1/\s.1.2.1<=b/\∀ d,s.1.1<=d->d<s.1.2.1->kp s=st d
 |_,[],_,_,hs=>by cases hs
 |a,t::l,h,s,hs=>by
  obtain⟨h1,h2,h3,h4,h5,h6⟩:=h;rcases uee.1 hs with rfl|hs
  ·rw[h1];exact⟨ue5 _,h2,h6.le,h4⟩
  ·obtain⟨q1,q2⟩:=fh.mem h6 s hs;exact⟨uez (uep h2) q1,q2⟩
noncomputable def X6:Cx:=cx [(56,mB ak)] []
def X7:CxOK prog X6:=aP aG ⟨Bc,uT⟩ trivial
def AA:Ct:=⟨[.d dm],[dm],λx=>(x.1,()),λx=>[x.1.2.2.1.length<=1000000]⟩
def TL:af prog 267 AA:=
 cQ (aS X7 f267 (fr:=λx=>Jd (x.1.2.2.1.length<=1000000) (Jv (x.1,()))) (ps:=[.d dm])) _ _
  (λ_ _ _ _ _ hok=>aF hok ⟨uT,rfl⟩)
def fF:aC.den:=(0,0,((0,0,()),(0,0,0,0,()),[],()),[],())
def uy (h:aC.den):Int:=if (aL h).length=0 then h.2.1 else ((aL h).getD ((aL h).length-1) az.dflt).1
def py (h:aC.den) (c:az.den):aC.den×Int:=
 if gl c=true/\gr h.2.2.1.1.1 h.2.2.1.1.2.1 c.2.1=true then
  (if c.1<uy h then (fF,4) else if 2000<=(aL h).length then (fF,2) else (Fm h c,0))
 else (fF,1)
def Ox:Ct:=⟨[.d aC,.d az],[aC,i64],λx=>((py x.1 x.2.1).1,(py x.1 x.2.1).2,()),λx=>[bL x.1]⟩
noncomputable def X8:Cx:=cx [(56,mB ak),(52,ou),(144,fM),(267,AA)] []
def X9:CxOK prog X8:=aP aG ⟨Bc,GW,oT,TL,uT⟩ trivial
def BW (h:aC.den) (c:az.den) (last:Int):Fr (aa [aC,i64]):=
 let b:=(none:Option Int);let d:=List.drop (b.getD 0).toNat (aL h);let a:=((aL h).length:Int);Jb (bif !(ou.f (c,())).1 then true else !(fM.f (h.2.2.1.1,c.2.1,())).1) (Jv (fF,1,()))
  (Jb (decide (c.1<last)) (Jv (fF,4,()))
   (Jb (decide (a>=2000)) (Jv (fF,2,()))
    (Jd (c.2.2.2.2.1.length<=1000000) (Jd (h.2.2.1.2.2.1.length<=1000000)
     (Jd (0<=b.getD 0/\b.getD 0<=a/\a<=a/\a=a)
      (Jd (0 < [c].length/\D3 (List.take (a-b.getD 0).toNat d).length [c].length)
       (Jv ((h.1,h.2.1,h.2.2.1,List.take (a-b.getD 0).toNat d++[c],()),0,()))))))))
def qld (x:ag [.d aC,.d az]):Fr (aa [aC,i64]):=
 let a:=((aL x.1).length:Int);Jb (decide (a>0))
  (Jd (0<=I6.wrap (a-1)/\I6.wrap (a-1)<a)
   (BW x.1 x.2.1 (List.getD (aL x.1) (I6.wrap (a-1)).toNat az.dflt).1))
  (BW x.1 x.2.1 x.1.2.1)
def qwv:af prog 277 (bg [.d aC,.d az] [aC,i64] qld):=
 aS X9 f277
def qxw (hn:n<=2000):D3 n 1:=by
 refine⟨by unfold maxLen; omega,uek (uea (show n+1<=2001 by omega) OF) (by decide)⟩
def NT {a b:Bool}:(bif !a then true else !b)=false↔a=true/\b=true:=by
 cases a<;>cases b<;>simp
def zbo (l:List az.den):List.take ((l.length:Int)-(none:Option Int).getD 0).toNat (List.drop ((none:Option Int).getD 0).toNat l)=l:=by
 show List.take ((l.length:Int)-0).toNat l=l;rw[uen,ucy,List.take_length]
def oe {a b:Bool} (h:(bif a then b else false)=true):a=true/\b=true:=by
 cases a with
 |false=>cases h
 |true=>exact⟨rfl,h⟩
def Jt (h:((n:Int)==0)=true):n<=1000000:=by
 have:(n:Int)=0:=eq_of_beq h;omega
def OE {c:az.den} (h:gl c=true):c.2.2.2.2.1.length<=1000000:=by
 unfold gl Jp at h;rw[uc9,uc9] at h;have h3:=h.2.2;split at h3
 ·exact Jt (oe (oe h3).1).2
 ·split at h3
  ·have hc:l7 c.2.2.2.2.1=true:=(oe (oe h3).1).1;unfold l7 at hc;rw[uc9] at hc;have:=ucv hc.1;exact uek this.2 (by decide)
  ·split at h3
   ·exact Jt (oe (oe h3).1).2
   ·split at h3
    ·exact Jt (oe (oe h3).1).2
    ·cases h3
def Q8 {h:aC.den} {c:az.den} {last:Int} (hl:last=uy h) (hf:bL h) :
  (BW h c last).ok/\(BW h c last).get=((py h c).1,(py h c).2,()):=by
 subst hl;unfold py;cases h1:(bif !(ou.f (c,())).1 then true else !(fM.f (h.2.2.1.1,c.2.1,())).1) with
 |true=>
  refine aZ h1 ⟨uT,?_⟩;have h1':¬ (gl c=true/\gr h.2.2.1.1.1 h.2.2.1.1.2.1 c.2.1=true):=λhh=>by
   have h2:(bif !gl c then true else !gr h.2.2.1.1.1 h.2.2.1.1.2.1 c.2.1)=true:=h1;rw[NT.2 hh] at h2;cases h2
  rw[if_neg h1'];rfl
 |false=>
  refine aR h1 ?_;have h1':gl c=true/\gr h.2.2.1.1.1 h.2.2.1.1.2.1 c.2.1=true:=NT.1 h1;rw[if_pos h1'];by_cases h2:c.1<uy h
  ·rw[if_pos h2];exact aZ (ud6 h2) ⟨uT,rfl⟩
  ·rw[if_neg h2];refine aR (udr h2) ?_;by_cases h3:2000<=(aL h).length
   ·rw[if_pos h3];exact aZ (ud6 (by omega)) ⟨uT,rfl⟩
   ·rw[if_neg h3];refine aR (udr (by omega)) (aF (OE h1'.1) (aF hf.2.1 (aF ⟨ue5 _,ub2 _,ue5 _,rfl⟩ ?_)));rw[zbo];have hr:=qxw (n:=(aL h).length) (by omega);refine aF ⟨udq,hr⟩ ⟨uT,?_⟩;rfl
def qwu:af prog 277 Ox:=
 cQ qwv _ _ (λw F x vs hr hok=>by
  obtain⟨h,c,_⟩:=x;obtain⟨v,vs',rfl,hv,_⟩:=hr;have hlen:((aL h).length:Int)<=9223372036854775807:=uB (aA.wf hv.2.2).2.2.2.1.1;have hf:=hok;by_cases h0:(aL h).length=0
  ·refine aR (udr (by show ¬ ((aL h).length:Int)>0; omega)) (Q8 ?_ hf);unfold uy;rw[if_pos h0]
  ·have hw:I6.wrap (((aL h).length:Int)-1)=((aL h).length:Int)-1:=cz (by omega);refine aZ (ud6 (by show((aL h).length:Int)>0; omega)) (aF ?_ (Q8 ?_ hf))
   ·show 0<=I6.wrap (((aL h).length:Int)-1)/\I6.wrap (((aL h).length:Int)-1)<((aL h).length:Int);omega
   ·show(List.getD (aL h) (I6.wrap (((aL h).length:Int)-1)).toNat az.dflt).1=uy h;unfold uy;rw[if_neg h0,hw,show(((aL h).length:Int)-1).toNat=(aL h).length-1 by omega])
section
open Go.Shelf
attribute [local go_sem] Oper.semAt_some
def qm2 (w:World) (m:Nat) (z:Array Value) (hz:z.size=9) (h1:m<=maxLen) (e:TypeId) :
  w.grownBy ((w.alloc (.cells (Builtin.zeroCells z m++Builtin.zeroCells z (grownCap w m 0 e-m)) e)).drew) none /\
   ((w.alloc (.cells (Builtin.zeroCells z m++Builtin.zeroCells z (grownCap w m 0 e-m)) e)).drew).ownsRow w.heap.size e 9 (.slice (some ⟨w.heap.size,0,none⟩) 0 (grownCap w m 0 e)) 0 []:=by
 have hge:=grownCap_ge w m 0 e;have hcm:grownCap w m 0 e<=maxLen:=ub5 w m 0 e h1;refine⟨⟨rfl,rfl,rfl,by simp,λb hb _=>nY w.drew _ b hb⟩,rfl,.inr ⟨w.heap.size,_,_,rfl,ue4 _,ud3 w.drew _,ufa _,hcm,?_,?_⟩⟩
 ·simp only[ucn,size_zeroCells,hz,<- ue6];congr 1;omega
 ·rfl
def qmx:prog.types[36].bytes=88:=by decide
def zaa (m:Nat) (h:0<m):Builtin.nextslicecap m 0=m:=by
 unfold Builtin.nextslicecap;rw[if_pos (by omega)]
def qm0 (n:Nat) (m:Nat) (h1:m<=maxLen) (h2:m*88<=140737488355328) (w:World) :
  CallsIn Fence.wide n prog 141 #[.slice none 0 0,.int .i64 m] w λe w'=>
   ∃ v,e = .returned v/\w.grownBy w' none/\w'.ownsRow w.heap.size 36 9 v 0 []:=by
 have hb:t36.bytes=88:=qmx;refine callsIn_of_wp func141 rfl trivial ?_ rfl;simp only[ntmps141,uco,uc6,udh,Nat.reduceAdd,Nat.reduceSub,ubl,ubm,ucw,ubv,udi,uc1]
 gi_wp2
 all_goals first
  |(exfalso; simp only[hb] at *; omega)
  |(exfalso; rename_i hlt _ _ _ _ _ ; rw[zaa _ (by omega),hb] at *; omega)
  |(go_ret; exact⟨_,rfl,ub6 _ _,ucq _ _ _ _⟩)
  |(go_ret; exact⟨_,rfl,qm2 w m _ rfl h1 _⟩)
def qmy:GrowOK prog 141 36 az 88:=
 ⟨enters (fn:=f141) (by kernel_rfl) rfl rfl,λw n h1 h2=>(callsIn_wide.1 (qm0 1 n h1 h2 w))⟩
end
abbrev oY:Ty:=.sl (.sl az)
noncomputable def WW:Cx:=cW [] [] (II 141 36 az 88)
def EB:CxOK prog WW:=cZ (cs:=[]) (ps:=[]) aG trivial trivial (qmz qmy)
abbrev nr:Pt:=⟨36,0,⟨[(0,.d oY),(9,.d oY),(10,.d i64),(11,.d i64),(3,.d i64)],[]⟩,⟨[(0,.d oY),(3,.d i64)],[]⟩,⟨[],[]⟩⟩
abbrev nt:Pt:=⟨36,2,⟨[(25,.d oY),(26,.d i64),(27,.d i64)],[.o 6 36 az]⟩,⟨[],[.o 6 36 az]⟩,⟨[],[]⟩⟩
def Io (x:nr.M.X):Fr nr.Out:=
 let l0:List (List az.den):=x.1.1; let l:List (List az.den):=x.1.2.1; let n:Int:=x.1.2.2.1; let i:Int:=x.1.2.2.2.1; let s:Int:=x.1.2.2.2.2.1
 Jb (decide (i<n))
  (Jd (0<=i/\i<(l.length:Int))
   (Jb (decide (I6.wrap (s+((List.length (α:=az.den) (l.getD i.toNat []):Nat):Int))<0)) (Jd False (Jv (Rd.back ((),()))))
    (Jv (Rd.next ((l0,l,n,I6.wrap (i+1),I6.wrap (s+((List.length (α:=az.den) (l.getD i.toNat []):Nat):Int)),()),())))))
  (Jv (Rd.out ((l0,s,()),())))
def qyt:ae prog (au f94 0) nr.M nr Io:=
 dn EB
def Ip (x:nt.M.X):Fr nt.Out:=
 let l:List (List az.den):=x.1.1; let n:Int:=x.1.2.1; let i:Int:=x.1.2.2.1; let o:List az.den:=x.2.1
 Jb (decide (i<n))
  (Jd (0<=i/\i<(l.length:Int))
   (Jd (D3 o.length (List.length (α:=az.den) (l.getD i.toNat [])))
    (Jv (Rd.next ((l,n,I6.wrap (i+1),()),(o++l.getD i.toNat [],()))))))
  (Jv (Rd.out ((),(o,()))))
def qyu:ae prog (au f94 1) nt.M nt Ip:=
 dn EB
structure InvCc1 (l:List (List az.den)) (n i s:Int):Prop where
 i0:0<=i
 il:i<=n
 nl:n=l.length
 big:(l.length:Int)<=9223372036854775807
 few:l.flatten.length<=1000000
 s0:s=((l.take i.toNat).flatten.length:Nat)
def ME (x:nr.M.X):Fr nr.Out:=Jd (x.1.1=x.1.2.1/\InvCc1 x.1.2.1 x.1.2.2.1 x.1.2.2.2.1 x.1.2.2.2.2.1) (Jv (Rd.out ((x.1.1,((List.flatten (α:=az.den) x.1.2.1).length:Int),()),())))
def VN (l:List (List az.den)) {k:Nat} (hk:k<l.length):(l.take (k+1)).flatten=(l.take k).flatten++l.getD k []:=by
 rw[List.take_add_one,List.flatten_append,uap hk,uah,uap hk];simp
def VO (l:List (List az.den)) (k:Nat):(l.take k).flatten.length<=l.flatten.length:=by
 conv=>rhs; rw[<- ua9 k l]
 rw[List.flatten_append,ub4];omega
def qpo (l0 l:List (List az.den)) (n i s:Int) (hinv:l0=l/\InvCc1 l n i s) (Q:nr.Out->Prop) (hq:Q (Rd.out ((l0,(l.flatten.length:Int),()),()))):(Io ((l0,l,n,i,s,()),())).satP λ
   |.next x'=>(x'.1.1=x'.1.2.1/\InvCc1 x'.1.2.1 x'.1.2.2.1 x'.1.2.2.2.1 x'.1.2.2.2.2.1)/\(x'.1.2.2.1-x'.1.2.2.2.1).toNat<(n-i).toNat/\(ME x').satP Q
   |.out y=>Q (.out y)
   |.back z=>Q (.back z)
   |.pan p=>Q (.pan p):=by
 obtain⟨rfl,h0,h1,h2,h3,h4,h5⟩:=hinv;obtain⟨k,rfl⟩:∃ k:Nat,i=k:=⟨i.toNat,by omega⟩;subst h2;dsimp only[Io,Fr.satP];rw[ucy] at h5 |-;refine⟨λhi=>?_,λhi=>?_⟩
 ·have hk:k<l0.length:=by have:(k:Int)<(l0.length:Int):=ucv hi; omega
  have hf:=VN l0 hk;have hle:=VO l0 (k+1);have hlen:=ufm List.length hf;rw[ub4] at hlen;have w1:I6.wrap ((k:Int)+1)=((k+1:Nat):Int):=by rw[cz (by omega)]; omega
  have w2:I6.wrap (s+((l0.getD k []).length:Int))=(((l0.take (k+1)).flatten.length:Nat):Int):=by rw[cz (by omega)]; omega
  rw[w1,w2];refine⟨⟨by omega,by omega⟩,λhn=>?_,λ_=>?_⟩
  ·have:((((l0.take (k+1)).flatten.length:Nat):Int)<0):=ucv hn;omega
  ·have hI:InvCc1 l0 l0.length ((k+1:Nat):Int) (((l0.take (k+1)).flatten.length:Nat):Int):=⟨by omega,by omega,rfl,h3,h4,by rw[ucy]⟩;exact⟨⟨rfl,hI⟩,by omega,⟨rfl,hI⟩,hq⟩
 ·have hk:¬ (k:Int)<(l0.length:Int):=ucf hi;rw[ua2 (by omega)] at h5;rw[h5];exact hq
def qqv:ae prog (.loop (au f94 0)) nr.M nr ME:=by
 refine ae.loop (n:=36) (id:=0) qyt (inv:=λx=>x.1.1=x.1.2.1/\InvCc1 x.1.2.1 x.1.2.2.1 x.1.2.2.2.1 x.1.2.2.2.2.1) (μ:=λx=>(x.1.2.2.1-x.1.2.2.2.1).toNat) ?_ (λx Q h=>h.1);rintro⟨⟨l0,l,n,i,s,_⟩,_⟩ hinv Q hq;exact qpo l0 l n i s hinv Q hq.2
structure InvCc2 (l:List (List az.den)) (n i:Int) (o:List az.den):Prop where
 i0:0<=i
 il:i<=n
 nl:n=l.length
 big:(l.length:Int)<=9223372036854775807
 few:l.flatten.length<=1000000
 o0:o=(l.take i.toNat).flatten
def MF (x:nt.M.X):Fr nt.Out:=Jd (InvCc2 x.1.1 x.1.2.1 x.1.2.2.1 x.2.1) (Jv (Rd.out ((),(List.flatten (α:=az.den) x.1.1,()))))
def qxx (h:n+m<=1000000):D3 n m:=by
 refine⟨by unfold maxLen; omega,uek (uea h OF) (by decide)⟩
def qpp (l:List (List az.den)) (n i:Int) (o:List az.den) (hinv:InvCc2 l n i o) (Q:nt.Out->Prop) (hq:Q (Rd.out ((),(l.flatten,())))):(Ip ((l,n,i,()),(o,()))).satP λ
   |.next x'=>InvCc2 x'.1.1 x'.1.2.1 x'.1.2.2.1 x'.2.1/\(x'.1.2.1-x'.1.2.2.1).toNat<(n-i).toNat/\(MF x').satP Q
   |.out y=>Q (.out y)
   |.back z=>Q (.back z)
   |.pan p=>Q (.pan p):=by
 obtain⟨h0,h1,h2,h3,h4,h5⟩:=hinv;obtain⟨k,rfl⟩:∃ k:Nat,i=k:=⟨i.toNat,by omega⟩;subst h2;dsimp only[Ip,Fr.satP];rw[ucy] at h5 |-;subst h5;refine⟨λhi=>?_,λhi=>?_⟩
 ·have hk:k<l.length:=by have:(k:Int)<(l.length:Int):=ucv hi; omega
  have hf:=VN l hk;have hle:=VO l (k+1);have hlen:=ufm List.length hf;rw[ub4] at hlen;have w1:I6.wrap ((k:Int)+1)=((k+1:Nat):Int):=by rw[cz (by omega)]; omega
  rw[w1,<- hf];have hI:InvCc2 l l.length ((k+1:Nat):Int) (l.take (k+1)).flatten:=⟨by omega,by omega,rfl,h3,h4,by rw[ucy]⟩;exact⟨⟨by omega,by omega⟩,qxx (by omega),hI,by omega,hI,hq⟩
 ·have hk:¬ (k:Int)<(l.length:Int):=ucf hi;rw[ua2 (by omega)];exact hq
def qqw:ae prog (.loop (au f94 1)) nt.M nt MF:=by
 refine ae.loop (n:=36) (id:=2) qyu (inv:=λx=>InvCc2 x.1.1 x.1.2.1 x.1.2.2.1 x.2.1) (μ:=λx=>(x.1.2.1-x.1.2.2.1).toNat) ?_ (λx Q h=>h.1);rintro⟨⟨l,n,i,_⟩,o,_⟩ hinv Q hq;exact qpp l n i o hinv Q hq.2
def Aw:Ct:=⟨[.d oY],[.sl az],λx=>(List.flatten (α:=az.den) x.1,()),λx=>[(List.flatten (α:=az.den) x.1).length<=1000000]⟩
def Q4 (x:ag [.d oY]):Fr (aa [.sl az]):=
 let l:List (List az.den):=x.1
 Jd (l=l/\InvCc1 l l.length 0 0)
  (Jd (0<=((l.flatten.length:Nat):Int)/\((l.flatten.length:Nat):Int)<=maxLen/\((l.flatten.length:Nat):Int)*(88:Nat)<=140737488355328)
   (Jd (InvCc2 l l.length 0 []) (Jv (l.flatten,()))))
def qed:af prog 94 (bg [.d oY] [.sl az] Q4):=
 oP EB qqv qqw (fr:=Q4) (ps:=[.d oY]) (rs:=[.sl az])
def qec:af prog 94 Aw:=
 cQ qed _ _ (λw F x vs hr hok=>by
  obtain⟨l,_⟩:=x;obtain⟨v,vs',rfl,hv,_⟩:=hr;have hlen:(List.length (α:=List az.den) l:Int)<=9223372036854775807:=uB (aA.wf hv.2.2).1;have hf:(List.flatten (α:=az.den) l).length<=1000000:=hok;refine aF ⟨rfl,⟨ue5 _,ub2 _,rfl,hlen,hf,rfl⟩⟩ (aF ⟨by omega,?_,?_⟩ (aF ⟨ue5 _,ub2 _,rfl,hlen,hf,rfl⟩ ⟨uT,rfl⟩))
  ·show((List.flatten (α:=az.den) l).length:Int)<=(maxLen:Int);unfold maxLen;omega
  ·show((List.flatten (α:=az.den) l).length:Int)*((88:Nat):Int)<=140737488355328;omega)
noncomputable def El:Code:=(f93.body.map Vb).getD .skip
noncomputable def VV:Code:=(f93.body.map Ru).getD .skip
noncomputable def VW:Code:=(findLabel El 0).getD .skip
noncomputable def EI:Cx:=cx [(134,G0)] []
def zN:CxOK prog EI:=aP aG ⟨JX,uT⟩ trivial
def nT:LS:=⟨[],[.x 1 118 aC,.r 1 1 0]⟩
def zY:LS:=⟨[(4,.d (.sl i64)),(5,.d i64)],[.x 1 118 aC,.r 1 1 0]⟩
def Dc:Pt:=⟨34,0,zY,⟨[],[]⟩,⟨[(2,.d i64),(3,.d .bool)],[]⟩⟩
def yE:Pt:=⟨34,0,nT,⟨[],[]⟩,⟨[(2,.d i64),(3,.d .bool)],[]⟩⟩
def Bt (x:zY.X):Fr Dc.Out:=
 let l:List Int:=x.1.1; let k:Int:=x.1.2.1; let h:aC.den:=x.2.1
 let v:Int:=l.getD (I6.wrap (k-1)).toNat 0
 Jb (k==0) (Jv (Rd.back ((0,false,()),())))
  (Jd (0<=I6.wrap (k-1)/\I6.wrap (k-1)<(l.length:Int))
   (Jd (0<=v/\v<((aL h).length:Int))
    (Jb (bif ((aL h).getD v.toNat az.dflt).2.2.1 != 3 then ((aL h).getD v.toNat az.dflt).2.2.1 != 4 else false)
     (Jv (Rd.next ((l,I6.wrap (k-1),()),(h,()))))
     (Jd (0<=I6.wrap (k-1)/\I6.wrap (k-1)<(l.length:Int)) (Jv (Rd.back ((v,true,()),())))))))
def qg8 (x:nT.X):Fr Dc.Out:=
 let h:aC.den:=x.2.1
 Jd (((aL h).length:Int)<=1000000) (Bt ((bE h,((bE h).length:Int),()),(h,())))
def qy3:gi prog 0 El nT Dc qg8:=gi.of_run zN (bs:=0) rfl rfl rfl (λ_=>aY _ 0) (λx=>by kernel_rfl)
def qy2:gi prog 0 VW zY Dc Bt:=gi.of_run zN (bs:=0) rfl rfl rfl (λ_=>aY _ 0) (λx=>by kernel_rfl)
def kM (c:az.den):Bool:=c.2.2.1==3 || c.2.2.1==4
def gM (h:aC.den) (l:List Int):Nat->Option Int
 |0=>none
 |k+1=>if kM (bZ h (l.getD k 0))=true then some (l.getD k 0) else gM h l k
structure InvTn (l:List Int) (k:Int) (h:aC.den):Prop where
 k0:0<=k
 kl:k<=l.length
 big:l.length<=1000000
 mem:∀ v∈l,0<=v/\v<((aL h).length:Int)
def CS (o:Option Int):Rd nT.X (LS.X ⟨[],[]⟩) (LS.X ⟨[(2,.d i64),(3,.d .bool)],[]⟩):=Rd.back ((o.getD 0,o.isSome,()),())
def MM (x:zY.X):Fr yE.Out:=Jd (InvTn x.1.1 x.1.2.1 x.2.1) (Jv (CS (gM x.2.1 x.1.1 (x.1.2.1:Int).toNat)))
def MN (x:nT.X):Fr yE.Out:=Jd (((aL x.2.1).length:Int)<=1000000) (Jv (CS (gM x.2.1 (bE x.2.1) (bE x.2.1).length)))
def qo4 (c:az.den):(bif c.2.2.1 != 3 then c.2.2.1 != 4 else false) = !kM c:=by
 unfold kM;show(bif !(c.2.2.1==3) then !(c.2.2.1==4) else false) = !(c.2.2.1==3 || c.2.2.1==4);cases c.2.2.1==3<;>cases c.2.2.1==4<;>rfl
def So (l:List Int) (k:Int) (h:aC.den) (hinv:InvTn l k h) (Q:yE.Out->Prop) (hq:Q (CS (gM h l k.toNat))):(Bt ((l,k,()),(h,()))).satP λ
   |.next x'=>InvTn x'.1.1 x'.1.2.1 x'.2.1/\(x'.1.2.1:Int).toNat<k.toNat/\(MM x').satP Q
   |.out y=>Q (.out y)
   |.back z=>Q (.back z)
   |.pan p=>Q (.pan p):=by
 obtain⟨h0,h1,h2,h3⟩:=hinv;obtain⟨n,rfl⟩:∃ n:Nat,k=n:=⟨k.toNat,by omega⟩;rw[ucy] at hq |-;cases n with
 |zero=>exact⟨λ_=>hq,λhb=>(by cases hb)⟩
 |succ m=>
  have w1:I6.wrap (((m+1:Nat):Int)-1)=(m:Int):=by rw[cz (by omega)]; omega
  have hm:m<l.length:=by omega
  dsimp only[Bt,Fr.satP];rw[w1,ucy];have hv:l.getD m 0=l[m]:=by rw[uah,uap hm]; rfl
  have hmem:=h3 (l.getD m 0) (by rw[hv]; exact udf hm);have hb:0<=(m:Int)/\(m:Int)<(l.length:Int):=⟨by omega,by omega⟩;have hkd:=qo4 (bZ h (l.getD m 0));refine⟨λhz=>?_,λ_=>⟨hb,hmem,λhk=>?_,λhk=>⟨hb,?_⟩⟩⟩
  ·exfalso;have:((m+1:Nat):Int)=0:=eq_of_beq hz;omega
  ·have ht:kM (bZ h (l.getD m 0))=false:=by
    have hk':(bif (bZ h (l.getD m 0)).2.2.1 != 3 then (bZ h (l.getD m 0)).2.2.1 != 4 else false)=true:=hk;rw[hkd] at hk';simpa using hk'
   have hI:InvTn l (m:Int) h:=⟨by omega,by omega,h2,h3⟩;refine⟨hI,Nat.lt_succ_self m,hI,?_⟩;show Q (CS (gM h l (m:Int).toNat));rw[ucy];have e:gM h l (m+1)=gM h l m:=if_neg (by rw[ht]; decide);rw[<- e];exact hq
  ·have ht:kM (bZ h (l.getD m 0))=true:=by
    have hk':(bif (bZ h (l.getD m 0)).2.2.1 != 3 then (bZ h (l.getD m 0)).2.2.1 != 4 else false)=false:=hk;rw[hkd] at hk';simpa using hk'
   have e:gM h l (m+1)=some (l.getD m 0):=if_pos ht;rw[e] at hq;exact hq
def qyj:ae prog (.scope El) nT yE MN:=
 zdi (n:=34) (id:=0) (N:=nT) (rest:=VW) (by kernel_rfl) qy3 qy2 (F:=MM) (inv:=λx=>InvTn x.1.1 x.1.2.1 x.2.1) (μ:=λx=>(x.1.2.1:Int).toNat)
  (by
   rintro⟨_,h,_⟩ Q hq;have hlen:(bE h).length=(aL h).length:=CO h;have h1:((aL h).length:Int)<=1000000:=hq.1;have hI:InvTn (bE h) ((bE h).length:Int) h:=⟨ub2 _,ue5 _,by omega,λv hv=>CR hv⟩;refine⟨h1,Fr.satP_mono ?_ (So (bE h) ((bE h).length:Int) h hI Q ?_)⟩
   ·intro r hr;cases r with
    |next x'=>exact⟨hr.1,hr.2.2⟩
    |out y=>exact hr
    |back z=>exact hr
    |pan p=>exact hr
   ·rw[ucy];exact hq.2)
  (by
   rintro⟨⟨l,k,_⟩,h,_⟩ hinv Q hq;exact So l k h hinv Q hq.2)
def mr (h:aC.den):Option Int:=gM h (bE h) (bE h).length
def qA:Ct:=⟨[.d aC],[i64,.bool],λx=>((mr x.1).getD 0,(mr x.1).isSome,()),λx=>[((aL x.1).length:Int)<=1000000]⟩
def zcd:af prog 93 qA:=
 cQ (QM (run:=sq (cr prog EI 0 bw VV 0) (yE.han EI.Γ nT MN)) (fn:=f93) (c:=.seq VV (.scope El)) (ps:=[.d aC]) (rs:=[i64,.bool])
  (fr:=λx=>Jd (((aL x.1).length:Int)<=1000000) (Jv ((mr x.1).getD 0,(mr x.1).isSome,()))) (aC.dflt,()) (by kernel_rfl) (by kernel_rfl)
  (λE=>z8 (tI zN (aY _ 0)) (ae.run zN rfl qyj)) (λx=>by kernel_rfl)) _ _ (λ_ _ _ _ _ hok=>aF hok ⟨uT,rfl⟩)
def ke:Code->Code
 |.seq _ c=>c
 |_=>.skip
def rh:Code->Code
 |.seq c _=>c
 |_=>.skip
def JT:Code->Array Oper
 |.region _ ops _=>ops
 |_=>#[]
noncomputable def th:Code:=(f95.body.map λc=>ke (ke c)).getD .skip
noncomputable def wu:Cx:=cx [(82,jb)] [(132,dW),(142,eF),(131,fP)]
def wv:CxOK prog wu:=aP aG ⟨Ky,uT⟩ ⟨Pf,JE,Wu,uT⟩
noncomputable def UP:St->Option Tr:=
 sq (cr prog wu 0 bw (rh th) 0) (sq (cr prog wu 0 bw (rh (ke th)) 0)
  (sq (Kn prog wu 0 (JT (rh (ke (ke th)))).toList) (cr prog wu 0 bw (ke (ke (ke th))) 0)))
def Il (b1 b2:Bool) (p1 p2:PV) (v:Int):Fr (aa [i64,i64]):=
 Jb b1 (Jd (b1=false->b1=false) (Jd (b1=true->True/\p1=p1) (Jd (b2=false->b2=false) (Jd (b2=true->True/\p2=p1) (Jd (inR .i64 p1.n) (Jv (0,p1.n,())))))))
  (Jb b2 (Jd (b1=false->b1=false) (Jd (b1=true->True/\p1=p2) (Jd (b2=false->b2=false) (Jd (b2=true->True/\p2=p2) (Jd (inR .i64 p2.n) (Jv (0,p2.n,())))))))
   (Jd (b1=false) (Jd (b2=false) (Jv (v,0,())))))
def Q2 (f:bm.den) (a b:Int):Fr (aa [i64,i64]):=
 Il (fP.bad (f,b,())) (fP.bad (f,a,())) (fP.pv (f,b,())) (fP.pv (f,a,())) (I6.wrap ((fP.f (f,b,())).1-(fP.f (f,a,())).1))
def Q1 (x:ag [.d zel,.d cn]):Fr (aa [i64,i64]):=
 let c:=eF.pv (1,());let b:=dW.pv (x.1,());let a:=Q2 (dW.f (x.1,())).1 x.2.1.1 x.2.1.2.1;Jb (dW.bad (x.1,())) (Jd (inR .i64 b.n) (Jv (0,b.n,())))
  (Jb (!(jb.f (x.2.1,())).1)
   (Jb (eF.bad (1,())) (Jd (inR .i64 c.n) (Jv (0,c.n,()))) a)
   a)
def qx5 (E:Env):lr prog E th UP:=
 z8 (tI wv (aY _ 0)) (z8 (tI wv (aY _ 0))
  (z8 (qw8 wv) (tI wv (aY _ 0))))
def WT:af prog 95 (bg [.d zel,.d cn] [i64,i64] Q1):=
 qgc wv (run:=UP) (fn:=f95) (A:=rh (f95.body.getD .skip)) (c:=th) (rid:=1) (ops:=JT (rh (ke (f95.body.getD .skip)))) (tp:=5) (fr:=Q1) (ps:=[.d zel,.d cn]) (rs:=[i64,i64]) ([],(0,0,()),()) (by kernel_rfl) (by kernel_rfl) (by kernel_rfl) VZ qx5 (λx=>by kernel_rfl)
def qwd {u1 u2:Int×Int} {b1 b2:Bool} {v:Int} (h1:b1 = !(u1.2==0)) (h2:b2 = !(u2.2==0)) :
  (if b1=true then ((0:Int),u1.2,()) else if b2=true then ((0:Int),u2.2,()) else (v,(0:Int),())) =
   ((if u1.2≠0 then ((0:Int),u1.2) else if u2.2≠0 then ((0:Int),u2.2) else (v,(0:Int))).1,(if u1.2≠0 then ((0:Int),u1.2) else if u2.2≠0 then ((0:Int),u2.2) else (v,(0:Int))).2,()):=by
 subst h1;subst h2;by_cases q1:u1.2=0
 ·by_cases q2:u2.2=0
  ·simp[q1,q2]
  ·simp[q1,q2]
 ·simp[q1]
def qbk {b:Int} (h1:0<=a/\a<=4000000000000000000) (h2:0<=b/\b<=4000000000000000000) : -9223372036854775808<=a-b/\a-b<=9223372036854775807:=by omega
def qk2 {b1 b2:Bool} {p1 p2:PV} {v:Int} (h:b1=true->b2=true->p2=p1) (h1:inR .i64 p1.n) (h2:inR .i64 p2.n) :
  (Il b1 b2 p1 p2 v).ok/\(Il b1 b2 p1 p2 v).get=if b1=true then (0,p1.n,()) else if b2=true then (0,p2.n,()) else (v,0,()):=by
 cases b1 with
 |true=>exact⟨⟨λ_=>⟨λh=>(by cases h),λ_=>⟨uT,rfl⟩,λh=>h,λhb=>⟨uT,h rfl hb⟩,h1,uT⟩,λh=>(by cases h)⟩,rfl⟩
 |false=>
  cases b2 with
  |true=>exact⟨⟨λh=>(by cases h),λ_=>⟨λ_=>⟨λh=>h,λh=>(by cases h),λh=>(by cases h),λ_=>⟨uT,rfl⟩,h2,uT⟩,λh=>(by cases h)⟩⟩,rfl⟩
  |false=>exact⟨⟨λh=>(by cases h),λ_=>⟨λh=>(by cases h),λ_=>⟨rfl,rfl,uT⟩⟩⟩,rfl⟩
def fe (l:List aB.den) (s:cn.den):Int×Int:=
 if (iG l).isNone=true\/jT s=false then (0,1)
 else if (bT (cy l) s.2.1).2≠0 then (0,(bT (cy l) s.2.1).2)
 else if (bT (cy l) s.1).2≠0 then (0,(bT (cy l) s.1).2)
 else ((bT (cy l) s.2.1).1-(bT (cy l) s.1).1,0)
def Ga:Ct:=⟨[.d zel,.d cn],[i64,i64],λx=>((fe x.1 x.2.1).1,(fe x.1 x.2.1).2,()),λ_=>[]⟩
def qbj:af prog 95 Ga:=
 conv WT _ _ λw F xs vs hr _=>by
  obtain⟨l,s,_⟩:=xs;by_cases hc:(iG l).isNone=true
  ·have hb:dW.bad (l,())=true:=hc;refine⟨⟨λ_=>⟨tS H9,uT⟩,λh=>(by have h':dW.bad (l,())=false:=h; rw[hb] at h'; cases h')⟩,?_⟩;show(if dW.bad (l,())=true then ((0:Int),(1:Int),()) else _)=((fe l s).1,(fe l s).2,());unfold fe;rw[hb,if_pos rfl,if_pos (.inl hc)]
  ·have hc':=ucx.2 hc;have hb:dW.bad (l,())=false:=hc';have hp:=qex hc';by_cases hs:jT s=true
   ·have hn:(!(jb.f (s,())).1)=false:=by show(!(jT s))=false; rw[hs]; rfl
    have hpv:fP.bad (cy l,s.2.1,())=true->fP.bad (cy l,s.1,())=true->fP.pv (cy l,s.1,())=fP.pv (cy l,s.2.1,()):=by
     intro h1 h2;have key:∀ d,fP.bad (cy l,d,())=true->(bT (cy l) d).2=5:=λd hd=>by
      have hd':(!((bT (cy l) d).2==0))=true:=hd;rw[zcv hp] at hd' |-;split
      ·rename_i hle;rw[if_pos hle] at hd';cases hd'
      ·rfl
     show(⟨_,_,(bT (cy l) s.1).2⟩:PV)=⟨_,_,(bT (cy l) s.2.1).2⟩;rw[key _ h1,key _ h2]
    obtain⟨k1,k2⟩:=qk2 hpv (tS (L8 (cy l) s.2.1)) (tS (L8 (cy l) s.1));refine⟨⟨λh=>(by have h':dW.bad (l,())=true:=h; rw[hb] at h'; cases h'),λ_=>⟨λh=>(by have h':(!(jb.f (s,())).1)=true:=h; rw[hn] at h'; cases h'),λ_=>k1⟩⟩,?_⟩;show(if dW.bad (l,())=true then _ else if (!(jb.f (s,())).1)=true then _ else (Q2 (cy l) s.1 s.2.1).get)=((fe l s).1,(fe l s).2,());rw[hb,if_neg (by decide),hn,if_neg (by decide)];have hw:=cz (qbk (L9 (cy l) s.2.1) (L9 (cy l) s.1));have hG:fe l s=if (bT (cy l) s.2.1).2≠0 then (0,(bT (cy l) s.2.1).2) else if (bT (cy l) s.1).2≠0 then (0,(bT (cy l) s.1).2) else ((bT (cy l) s.2.1).1-(bT (cy l) s.1).1,0):=if_neg (λh=>h.elim hc (λh=>by rw[hs] at h; cases h))
    rw[hG,<- hw];exact qwd rfl rfl
   ·have hn:(!(jb.f (s,())).1)=true:=by show(!(jT s))=true; simpa using hs
    refine⟨⟨λh=>(by have h':dW.bad (l,())=true:=h; rw[hb] at h'; cases h'),λ_=>⟨λ_=>⟨λ_=>⟨tS H9,uT⟩,λh=>(by cases h)⟩,λh=>(by have h':(!(jb.f (s,())).1)=false:=h; rw[hn] at h'; cases h')⟩⟩,?_⟩;show(if dW.bad (l,())=true then _ else if (!(jb.f (s,())).1)=true then ((0:Int),(1:Int),()) else _)=((fe l s).1,(fe l s).2,());have hB:fe l s=(0,1):=if_pos (.inr (by simpa using hs));rw[hb,if_neg (by decide),hn,if_pos rfl,hB]
noncomputable def X2:Cx:=cx [(65,fN),(93,qA),(94,Aw),(95,Ga),(96,iC)] []
def X3:CxOK prog X2:=aP aG ⟨CN,zcd,qec,qbj,wL,uT⟩ trivial
def rH (h:aC.den) (a:Int):List (List az.den):=
 [List.take (a-0).toNat (List.drop (0:Int).toNat (aL h)),List.take (((aL h).length:Int)-I6.wrap (a+1)).toNat (List.drop (I6.wrap (a+1)).toNat (aL h))]
def yW (h:aC.den) (l:List az.den):aC.den:=(h.1,h.2.1,h.2.2.1,l,())
def I1 (h x:aC.den) (t:b8.den) (day:Int):Fr (aa [i64,i64]):=
 let c:=fN.f (x,t,());let a:=Ga.f (c.1,(day,h.2.2.1.1.2.1,()),());let b:=iC.f (a.1,1000,());Jd (bL x) (Jd (bJ t)
  (Jb (c.2.1 != 0) (Jv (0,c.2.1,()))
   (Jb (a.2.1 != 0) (Jv (0,a.2.1,()))
    (Jv (b.1,b.2.1,())))))
def I0 (x:ag [.d aC,.d b8]):Fr (aa [i64,i64]):=
 let h:aC.den:=x.1; let t:b8.den:=x.2.1
 let a:Int:=(qA.f (h,())).1; let is:Bool:=(qA.f (h,())).2.1
 Jd (bL h) (Jd (bJ t) (Jb ((fN.f (h,t,())).2.1 != 0) (Jv (0,(fN.f (h,t,())).2.1,()))
  (Jd (((aL h).length:Int)<=1000000)
   (Jd ((!is)=false->0<=a/\a<((aL h).length:Int))
    (Jd ((bif !is then true else ((aL h).getD a.toNat az.dflt).2.2.1 != 3)=false->0<=a/\a<((aL h).length:Int))
     (Jb (bif bif !is then true else ((aL h).getD a.toNat az.dflt).2.2.1 != 3 then true else ((aL h).getD a.toNat az.dflt).2.2.2.2.2.1 != 1) (Jv (0,0,()))
      (Jd (0<=a/\a<((aL h).length:Int))
       (Jd (0<=(none:Option Int).getD 0/\(none:Option Int).getD 0<=a/\a<=((aL h).length:Int))
        (Jd (0<=I6.wrap (a+1)/\I6.wrap (a+1)<=((aL h).length:Int)/\((aL h).length:Int)<=((aL h).length:Int))
         (Jd ((rH h a).flatten.length<=1000000)
          (I1 h (yW h (Aw.f (rH h a,())).1) t ((aL h).getD a.toNat az.dflt).2.1)))))))))))
def qo3:af prog 64 (bg [.d aC,.d b8] [i64,i64] I0):=
 aS X3 f64
def qd (h:aC.den) (a:Nat):aC.den:=yW h ((aL h).take a++(aL h).drop (a+1))
def uv (h:aC.den) (t:b8.den) (a:Int):Int×Int:=
 if (bZ h a).2.2.1=3/\(bZ h a).2.2.2.2.2.1=1 then
  (if (c9 (qd h a.toNat) t).2=0 then
   (if (fe (c9 (qd h a.toNat) t).1 ((bZ h a).2.1,h.2.2.1.1.2.1,())).2=0 then bpF (fe (c9 (qd h a.toNat) t).1 ((bZ h a).2.1,h.2.2.1.1.2.1,())).1 1000
    else (0,(fe (c9 (qd h a.toNat) t).1 ((bZ h a).2.1,h.2.2.1.1.2.1,())).2))
   else (0,(c9 (qd h a.toNat) t).2))
 else (0,0)
def fV (h:aC.den) (t:b8.den):Int×Int:=
 if (c9 h t).2=0 then (match mr h with|none=>(0,0)|some a=>uv h t a) else (0,(c9 h t).2)
def ow:Ct:=⟨[.d aC,.d b8],[i64,i64],λx=>((fV x.1 x.2.1).1,(fV x.1 x.2.1).2,()),λx=>[bL x.1,bJ x.2.1]⟩
def Wi (h:aC.den) (l:List Int):(k:Nat)->k<=l.length->∀ v,gM h l k=some v->v∈l/\kM (bZ h v)=true
 |0,_,_,hv=>by cases hv
 |k+1,hk,v,hv=>by
  unfold gM at hv;split at hv
  ·rename_i ht;cases hv;refine⟨?_,ht⟩;have:l.getD k 0=l[k]:=by rw[uah,uap (by omega)]; rfl
   rw[this];exact udf _
  ·exact Wi h l k (by omega) v hv
def zcc {h:aC.den} (ha:mr h=some a):(0<=a/\a<((aL h).length:Int))/\kM (bZ h a)=true:=by
 obtain⟨h1,h2⟩:=Wi h (bE h) _ (ue4 _) a ha;exact⟨CR h1,h2⟩
def qwc {h:aC.den} {a:Nat} (ha:a<(aL h).length) (hf:(aL h).length<=1000000):I6.wrap ((a:Int)+1)=((a+1:Nat):Int)/\(rH h a).flatten=(aL h).take a++(aL h).drop (a+1):=by
 have w:I6.wrap ((a:Int)+1)=((a+1:Nat):Int):=by rw[cz (by omega)]; omega
 refine⟨w,?_⟩;unfold rH;rw[w,uen,ucy,ucy,show(((aL h).length:Int)-((a+1:Nat):Int)).toNat=(aL h).length-(a+1) by omega];have e:List.take ((aL h).length-(a+1)) (List.drop (a+1) (aL h))=List.drop (a+1) (aL h):=ua2 (by rw[uc3]; exact ue4 _);rw[e];simp
def zdb {h:aC.den} (hf:bL h) (a:Nat):bL (qd h a):=by
 have hsub:List.Sublist ((aL h).take a++(aL h).drop (a+1)) (aL h):=by
  conv=>rhs; rw[<- ua9 a (aL h)]
  refine List.Sublist.append (List.Sublist.refl _) ?_;rw[<- List.drop_drop];exact List.drop_sublist 1 _
 refine⟨uek (List.Sublist.length_le hsub) hf.1,hf.2.1,λc hc=>hf.2.2 c (hsub.subset hc)⟩
def NR {b:Bool}:(bif bif !b then true else x != 3 then true else y != 1)=false↔b=true/\x=3/\y=1:=by
 cases b with
 |false=>simp
 |true=>
  by_cases h1:x=3
  ·by_cases h2:y=1
   ·simp[h1]
   ·simp[h1]
  ·simp
def qo8 {h x:aC.den} {t:b8.den} (hx:bL x) (ht:bJ t):(I1 h x t day).ok/\(I1 h x t day).get =
  (let r:Int×Int:=if (c9 x t).2=0 then (if (fe (c9 x t).1 (day,h.2.2.1.1.2.1,())).2=0 then bpF (fe (c9 x t).1 (day,h.2.2.1.1.2.1,())).1 1000 else (0,(fe (c9 x t).1 (day,h.2.2.1.1.2.1,())).2)) else (0,(c9 x t).2)
   (r.1,r.2,())):=by
 refine aF hx (aF ht ?_);by_cases h1:(c9 x t).2=0
 ·refine aR (by show((c9 x t).2 != 0)=false; simp[h1]) ?_;simp only[h1];by_cases h2:(fe (c9 x t).1 (day,h.2.2.1.1.2.1,())).2=0
  ·refine aR (by show((fe (c9 x t).1 (day,h.2.2.1.1.2.1,())).2 != 0)=false; simp[h2]) ⟨uT,?_⟩;simp only[h2];rfl
  ·refine aZ (by show((fe (c9 x t).1 (day,h.2.2.1.1.2.1,())).2 != 0)=true; simp[h2]) ⟨uT,?_⟩;simp only[h2];rfl
 ·refine aZ (by show((c9 x t).2 != 0)=true; simp[h1]) ⟨uT,?_⟩;simp only[h1];rfl
def qo0 (h:aC.den) (t:b8.den) (hf:bL h) (ht:bJ t):(I0 (h,t,())).ok/\(I0 (h,t,())).get=((fV h t).1,(fV h t).2,()):=by
 have hl:=hf.1;refine aF hf (aF ht ?_);unfold fV;by_cases h1:(c9 h t).2=0
 ·refine aR (by show((c9 h t).2 != 0)=false; simp[h1]) (aF (show((aL h).length:Int)<=1000000 by omega) ?_);rw[if_pos h1];cases ho:mr h with
  |none=>
   have e2:(qA.f (h,())).2.1=false:=by show(mr h).isSome=false; rw[ho]; rfl
   rw[e2];exact aF (λhh=>by cases hh) (aF (λhh=>by cases hh) (aZ rfl ⟨uT,rfl⟩))
  |some a=>
   obtain⟨⟨a0,a1⟩,hT⟩:=zcc ho;have e1:(qA.f (h,())).1=a:=by show(mr h).getD 0=a; rw[ho]; rfl
   have e2:(qA.f (h,())).2.1=true:=by show(mr h).isSome=true; rw[ho]; rfl
   rw[e1,e2];refine aF (λ_=>⟨a0,a1⟩) (aF (λ_=>⟨a0,a1⟩) ?_);show _/\_=((uv h t a).1,(uv h t a).2,());cases hb:(bif bif !true then true else ((aL h).getD a.toNat az.dflt).2.2.1 != 3 then true else ((aL h).getD a.toNat az.dflt).2.2.2.2.2.1 != 1) with
   |true=>
    refine aZ rfl ⟨uT,?_⟩;have hn:¬ ((bZ h a).2.2.1=3/\(bZ h a).2.2.2.2.2.1=1):=λhh=>by
     have hb':(bif bif !true then true else (bZ h a).2.2.1 != 3 then true else (bZ h a).2.2.2.2.2.1 != 1)=true:=hb;rw[NR.2 ⟨rfl,hh⟩] at hb';cases hb'
    unfold uv;rw[if_neg hn];rfl
   |false=>
    obtain⟨_,k1,k2⟩:=NR.1 hb;obtain⟨n,rfl⟩:∃ n:Nat,a=n:=⟨a.toNat,by omega⟩;obtain⟨w,hfl⟩:=qwc (h:=h) (a:=n) (by omega) (by omega);have hwf:=zdb hf n;have hlen:((rH h n).flatten).length<=1000000:=by
     rw[hfl];have:(aL (qd h n)).length<=500000:=hwf.1;exact uek this (by decide)
    have q1:0<=I6.wrap ((n:Int)+1)/\I6.wrap ((n:Int)+1)<=((aL h).length:Int):=by rw[w]; omega
    refine aR rfl (aF ⟨a0,a1⟩ (aF ⟨ue5 _,a0,uep a1⟩ (aF ⟨q1.1,q1.2,ue5 _⟩ (aF hlen ?_))));have hx:yW h (Aw.f (rH h n,())).1=qd h n:=by
     show yW h (List.flatten (rH h n))=yW h _;rw[hfl]
    rw[hx];have:=qo8 (h:=h) (day:=(bZ h n).2.1) hwf ht;refine⟨this.1,this.2.trans ?_⟩;unfold uv;have hk:(bZ h n).2.2.1=3/\(bZ h n).2.2.2.2.2.1=1:=⟨k1,k2⟩;rw[if_pos hk,ucy]
 ·refine aZ (by show((c9 h t).2 != 0)=true; simp[h1]) ⟨uT,?_⟩;rw[if_neg h1];rfl
def Sh:af prog 64 ow:=
 cQ qo3 _ _ (λw F x vs hr hok=>by
  obtain⟨h,t,_⟩:=x;exact qo0 h t hok.1 hok.2)
def Sg (h:aC.den) (t:b8.den):0<=(fV h t).1/\(fV h t).1<=4000000000000000000:=by
 have z:(0:Int)<=0/\(0:Int)<=4000000000000000000:=by decide
 unfold fV;split
 ·split
  ·exact z
  ·unfold uv;split
   ·split
    ·split
     ·exact PL _ _ _ (by decide)
     ·exact z
    ·exact z
   ·exact z
 ·exact z
def ZO (l:List aB.den) (d:Int):0<=(dS l d).1/\(dS l d).1<=4000000000000000000:=by
 unfold dS;split
 ·exact Ey
 ·exact L9 _ _
def qvt {b:Int}:a>4000000000000000000-b↔4000000000000000000<a+b:=by omega
def Py (w k:Int):Int×Int:=if 4000000000000000000<w+k then (0,5) else (w+k,0)
def mN (h:aC.den) (t:b8.den):Int×Int:=
 if (fV h t).2=0 then (if (dS (c9 h t).1 292195).2=0 then Py (dS (c9 h t).1 292195).1 (fV h t).1 else (0,(dS (c9 h t).1 292195).2)) else (0,(fV h t).2)
def A5:Ct:=⟨[.d aC,.d b8],[i64,i64],λx=>((mN x.1 x.2.1).1,(mN x.1 x.2.1).2,()),λx=>[bL x.1,bJ x.2.1]⟩
noncomputable def WY:Cx:=cx [(64,ow),(65,fN),(66,AH)] []
def WZ:CxOK prog WY:=aP aG ⟨Sh,CN,ZP,uT⟩ trivial
def Iy (h:aC.den) (t:b8.den) (over:Bool):Fr (aa [i64,i64]):=
 let K:aa [i64,i64]:=ow.f (h,t,()); let W:aa [i64,i64]:=AH.f ((fN.f (h,t,())).1,())
 Jd (bL h) (Jd (bJ t) (Jb (K.2.1 != 0) (Jv (0,K.2.1,()))
  (Jd (bL h) (Jd (bJ t) (Jb (W.2.1 != 0) (Jv (0,W.2.1,()))
   (Jb over (Jv (0,5,())) (Jv (I6.wrap (W.1+K.1),0,()))))))))
def qk6 (x:ag [.d aC,.d b8]):Fr (aa [i64,i64]):=
 let a:=(x.1,x.2.1,());Iy x.1 x.2.1 (decide ((AH.f ((fN.f a).1,())).1>I6.wrap (4000000000000000000-(ow.f a).1)))
def qgb:af prog 42 (bg [.d aC,.d b8] [i64,i64] qk6):=
 aS WZ f42
def qga {h:aC.den} {t:b8.den} {over:Bool} (hf:bL h) (ht:bJ t) (ho:over=decide (4000000000000000000<(dS (c9 h t).1 292195).1+(fV h t).1)) :
  (Iy h t over).ok/\(Iy h t over).get=((mN h t).1,(mN h t).2,()):=by
 have k:=Sg h t;have u:=ZO (c9 h t).1 292195;refine aF hf (aF ht ?_);unfold mN;by_cases h1:(fV h t).2=0
 ·rw[if_pos h1];refine aR (by show((fV h t).2 != 0)=false; simp[h1]) (aF hf (aF ht ?_));by_cases h2:(dS (c9 h t).1 292195).2=0
  ·rw[if_pos h2];refine aR (by show((dS (c9 h t).1 292195).2 != 0)=false; simp[h2]) ?_;unfold Py;by_cases h3:4000000000000000000<(dS (c9 h t).1 292195).1+(fV h t).1
   ·rw[if_pos h3];exact aZ (ho.trans (ud6 h3)) ⟨uT,rfl⟩
   ·rw[if_neg h3];refine aR (ho.trans (udr h3)) ⟨uT,?_⟩;show(I6.wrap ((dS (c9 h t).1 292195).1+(fV h t).1),(0:Int),())=_;rw[cz (by omega)]
  ·rw[if_neg h2];exact aZ (by show((dS (c9 h t).1 292195).2 != 0)=true; simp[h2]) ⟨uT,rfl⟩
 ·rw[if_neg h1];exact aZ (by show((fV h t).2 != 0)=true; simp[h1]) ⟨uT,rfl⟩
def Pz:af prog 42 A5:=
 cQ qgb _ _ (λw F x vs hr hok=>by
  obtain⟨h,t,_⟩:=x;have k:=Sg h t;refine qga hok.1 hok.2 ?_;show decide ((dS (c9 h t).1 292195).1>I6.wrap (4000000000000000000-(fV h t).1))=_;rw[cz (by omega)];exact ude.2 qvt)
def qac {h:aC.den} {c:az.den} (hf:bL h) (hl:(aL h).length<2000) (hc:c.2.2.2.2.1.length<=1000000):bL (Fm h c):=by
 have e:aL (Fm h c)=([]++aL h)++[c]:=rfl;refine⟨?_,hf.2.1,λc' hc'=>?_⟩
 ·rw[e,udi,ub4];show _+1<=500000;omega
 ·rw[e,udi,udo] at hc';rcases hc' with hc'|hc'
  ·exact hf.2.2 c' hc'
  ·cases ucd.1 hc';exact hc
def Uq {h:aC.den} {c:az.den} (hf:bL h):bL (py h c).1:=by
 have z:bL fF:=⟨by decide,by decide,λc hc=>by cases hc⟩;unfold py;split
 ·rename_i h1;split
  ·exact z
  ·split
   ·exact z
   ·exact qac hf (by omega) (OE h1.1)
 ·exact z
section
open Go.Shelf
attribute [local go_sem] Oper.semAt_some
structure ChC where
 p:Nat->Int
 A:Option Addr
 l:Nat
 c:Nat
def de (d:ChC):Array Value:=#[.int .i64 (d.p 0),.int .i64 (d.p 1),.int .i64 (d.p 2),.int .i64 (d.p 3),.int .i64 (d.p 4),.int .i64 (d.p 5),.int .i64 (d.p 6),.slice d.A d.l d.c,.int .i64 (d.p 7)]
def o5 (d:ChC):Value:=.agg (de d)
abbrev cG:Type:=Option Addr×Nat×Nat
def ChC.set (d:ChC) (s:cG):ChC:=⟨d.p,s.1,s.2.1,s.2.2⟩
def qdf {x:az.den} (h:aA w F az x g) :
  ∃ d:ChC,(∀ j u,(de d)[j]? = some u->g j u)/\d.p 0=x.1/\aA w F (.sl ak) x.2.2.2.2.1 (λ_ u=>u = .slice d.A d.l d.c) /\
   ∀ (s:cG) (Y:World) (F2:Nat->Prop),aA Y F2 (.sl ak) x.2.2.2.2.1 (λ_ u=>u = .slice s.1 s.2.1 s.2.2)->bu Y F2 az x (o5 (d.set s)):=by
 obtain⟨h0,h1,h2,⟨b0,b1,b2,b3,_⟩,⟨A,c,h3,h3'⟩,h4,_⟩:=h;refine⟨⟨λj=>match j with|0=>x.1|1=>x.2.1|2=>x.2.2.1|3=>x.2.2.2.1.1|4=>x.2.2.2.1.2.1|5=>x.2.2.2.1.2.2.1|6=>x.2.2.2.1.2.2.2.1|_=>x.2.2.2.2.2.1,A,x.2.2.2.2.1.length,c⟩,λj u hj=>?_,rfl,⟨A,c,rfl,h3'⟩,λs Y F2 hs=>⟨rfl,⟨λ_=>⟨_,rfl⟩,λ_=>rfl⟩,⟨rfl,h0.2⟩,⟨rfl,h1.2⟩,⟨rfl,h2.2⟩,⟨⟨rfl,b0.2⟩,⟨rfl,b1.2⟩,⟨rfl,b2.2⟩,⟨rfl,b3.2⟩,uT⟩,?_,⟨rfl,h4.2⟩,uT⟩⟩
 rotate_left
 ·obtain⟨A2,c2,e,h⟩:=hs;refine⟨A2,c2,?_,h⟩;show some (Value.slice s.1 s.2.1 s.2.2)=_;rw[e]
 match j,hj with
 |0,hj=>cases hj; exact h0.1
 |1,hj=>cases hj; exact h1.1
 |2,hj=>cases hj; exact h2.1
 |3,hj=>cases hj; exact b0.1
 |4,hj=>cases hj; exact b1.1
 |5,hj=>cases hj; exact b2.1
 |6,hj=>cases hj; exact b3.1
 |7,hj=>cases hj; exact h3
 |8,hj=>cases hj; exact h4.1
 |j+9,hj=>simp[de] at hj
def jB (c:Nat->ChC) (day:Int) (k:Nat):List Nat:=(List.range k).filter λi=>decide ((c i).p 0<=day)
def qea {c:Nat->ChC} {k:Nat} (h:(c k).p 0<=day):jB c day (k+1)=jB c day k++[k]:=by simp[jB,udx,uch,h]
def qd9 {c:Nat->ChC} {k:Nat} (h:¬ (c k).p 0<=day):jB c day (k+1)=jB c day k:=by simp[jB,udx,uch]; omega
def qd8 (c:Nat->ChC) (day:Int) (k:Nat):(jB c day k).length<=k:=by
 have:=List.length_filter_le (λi=>decide ((c i).p 0<=day)) (List.range k);rw[List.length_range] at this;exact this
def mH (c:Nat->ChC) (x:Fin len×cG):Value:=o5 ((c x.1.1).set x.2)
def zcs (n:Nat) (hn:1<=n) (l Bh oh Bd od n₀ b off len cap:Nat) (day:Int) (c:Nat->ChC) (hreach:len<=1000000) (A:Option Addr) (hA:0<len->A=some ⟨b,off,none⟩/\b<n₀) (E:Fin len×cG->World->World->Prop) (J:List (Fin len×cG)->World->Prop)
  (hJ:∀ pre X Y,J pre X->Below X.heap.size X Y->J pre Y)
  (W:World) (hn₀:n₀<=W.heap.size)
  (hclone:∀ (k:Fin len) X,cw n₀ Bh Bd W X->Calls prog 56 #[.slice (c k.1).A (c k.1).l (c k.1).c] X λe w'=>∃ s:cG,e = .returned (.slice s.1 s.2.1 s.2.2)/\Below X.heap.size X w' /\
   ∀ (Bx:Nat) (X0 Y:World),n₀<=Bx->Bx<X.heap.size->X0.heap.size<=X.heap.size->(∀ q,q≠Bx->Y.heap[q]? = w'.heap[q]?)->E (k,s) X0 Y)
  (hY:∀ pre (x:Fin len×cG) X0 X,J pre X0->Below X0.heap.size X0 X->E x X0 X->pre.length<len->YieldAt Fence.wide (n-1) prog l #[mH c x] X λe W'=>e = .returned (.bool true)/\J (pre++[x]) W'/\cw n₀ Bh Bd X W')
  (hBh:W.cell? ⟨Bh,oh+9,none⟩=some (.slice A len cap)) (hBd:W.cell? ⟨Bd,od,none⟩=some (.int .i64 day))
  (hc:∀ k j u,k<len->(de (c k))[j]? = some u->W.cell? ⟨b,off+(k*9+j),none⟩=some u) (h0:J [] W) :
  CallsIn Fence.wide n prog 217 #[.func (.yield l) #[] #[],.pointer (some ⟨Bh,oh,none⟩),.pointer (some ⟨Bd,od,none⟩)] W λe W'=>(∃ v,e = .returned v) /\
   ∃ xs:List (Fin len×cG),xs.map (λx=>x.1.1)=jB c day len/\J xs W':=by
 have hro:Fence.wide.round=none:=rfl;refine callsIn_of_wp func217 rfl trivial ?_ hro;simp only[ntmps217,uco,uc6,udh,Nat.reduceAdd,Nat.reduceSub,ubl,ubm,ucw,ubv,udi,uc1];have hl1:Bh<W.heap.size:=by
  obtain⟨_,_,_,h⟩:=GU hBh;exact(uaf.1 h).1
 have hl2:Bd<W.heap.size:=by
  obtain⟨_,_,_,h⟩:=GU hBd;exact(uaf.1 h).1
 gi_wp2
 gi_loopw [9] (λi wr=>∃ (k:Nat) (pre:List (Fin len×cG)),k<=len/\i = .int .i64 (k:Int)/\pre.map (λx=>x.1.1)=jB c day k/\J pre wr/\cw n₀ Bh Bd W wr)
  (λi _=>((len:Int)-intOf i).toNat)
 case atStart=>exact⟨0,[],ufa _,by simp,rfl,h0,cw.refl _ _ _ _⟩
 case round=>
  obtain⟨k,pre,hk,rfl,hpre,hJs,hnx⟩:=hrel;have e0:=(ubb hnx.2.2).trans hBd;by_cases hlt:k<len
  ·obtain⟨rfl,hb⟩:=hA (by omega);have hlen:pre.length<len:=by
    have:=ufm List.length hpre;have h2:=qd8 c day k;rw[udy] at this;omega
   have hcx:∀ j u,(de (c k))[j]? = some u->wr.cell? ⟨b,off+k*9+j,none⟩=some u:=λj u hj=>by
    rw[ued];exact(hnx.1.cell hb).trans (hc _ j u hlt hj)
   have x0:=hcx 0 (.int .i64 ((c k).p 0)) rfl;have x1:=hcx 1 (.int .i64 ((c k).p 1)) rfl;have x2:=hcx 2 (.int .i64 ((c k).p 2)) rfl;have x3:=hcx 3 (.int .i64 ((c k).p 3)) rfl;have x4:=hcx 4 (.int .i64 ((c k).p 4)) rfl;have x5:=hcx 5 (.int .i64 ((c k).p 5)) rfl;have x6:=hcx 6 (.int .i64 ((c k).p 6)) rfl;have x7:=hcx 7 (.slice (c k).A (c k).l (c k).c) rfl;have x8:=hcx 8 (.int .i64 ((c k).p 7)) rfl;rw[ueu] at x0;have hBdl:=ub9 hl2 hnx.1.size;have hBhl:=ub9 hl1 hnx.1.size;have hBb:Below wr.heap.size wr (wr.alloc (.cells (de (c k)) 36)):=(ufd _ wr).alloc (ue4 _) _;have e1:=(hBb.cell hBdl).trans e0;have hKb:cw n₀ Bh Bd W (wr.alloc (.cells (de (c k)) 36)):=hnx.trans (cw.below hBb (uek hn₀ hnx.1.size) hBhl hBdl);have HK:=Lib.hid hKb;have HB:=Lib.hid hBb
   gi_wp2
   ·have hno':day<(c k).p 0:=by assumption
    have hno:¬ (c k).p 0<=day:=by omega
    exact⟨⟨k+1,pre,by omega,by simp,by rw[qd9 hno,hpre],hJ _ _ _ hJs HB.out,HK.out⟩,by simp[intOf]; omega⟩
   ·have hyes:(c k).p 0<=day:=by assumption
    refine⟨uT,?_⟩;refine(callsIn_wide.2 (hclone ⟨k,hlt⟩ _ HK.out)).mono ?_;rintro e w1 ⟨s,rfl,hb1,hE⟩;have hszb:wr.heap.size<(wr.alloc (.cells (de (c k)) 36)).heap.size:=by simp
    have z4:=(hb1.block wr.heap.size hszb).trans (World.alloc_heap_new wr (.cells (de (c k)) 36));unfold de at z4;obtain⟨u0,u1,u2,u3,u4,u5,u6,u7,u8⟩:=zjw λj _=>aO z4 j;have ff:∀ j,w1.frozen? ⟨wr.heap.size,j,none⟩=false:=λj=>by simp[World.frozen?,z4]
    have hW3:Below wr.heap.size wr (w1.setCell ⟨wr.heap.size,7,none⟩ (.slice s.1 s.2.1 s.2.2)):=(HB.out.trans (hb1.mono (ue0 hszb))).setCell (ue4 _) _;have hk3:=cw.below hW3 (uek hn₀ hnx.1.size) hBhl hBdl;have hE3:=hE wr.heap.size wr (w1.setCell ⟨wr.heap.size,7,none⟩ (.slice s.1 s.2.1 s.2.2)) (uek hn₀ hnx.1.size) hszb (ue0 hszb) (λq hq=>uci _ _ q _ hq);obtain⟨fn,tmps,assign,body,hy,hR⟩:=hY pre (⟨k,hlt⟩,s) wr _ hJs hW3 hE3 hlen;dsimp only[mH,o5,de,ChC.set] at hy
    gi_wp2
    refine hR.mono ?_;rintro e W4 ⟨rfl,hJ4,hk4⟩
    gi_wp2
    go_roundw
    case rel=>exact⟨k+1,pre++[(⟨k,hlt⟩,s)],by omega,by simp,by rw[qea hyes,uds,hpre]; rfl,hJ4,hnx.trans (hk3.trans hk4)⟩
    case measure=>simp[intOf]; omega
  ·obtain rfl:k=len:=by omega
   gi_wp2
   go_end0
   exact⟨⟨_,rfl⟩,_,hpre,hJs⟩
end
section
open Go.Shelf Go.Maps
attribute [local go_sem] Oper.semAt_some
def jA (c:Nat->ChC):List (Fin len×cG)->List Value
 |[]=>[]
 |x::l=>(de ((c x.1.1).set x.2)).toList++jA c l
def GX (c:Nat->ChC):(a b:List (Fin len×cG))->jA c (a++b)=jA c a++jA c b
 |[],_=>rfl
 |x::a,b=>by simp[jA,GX c a b]
def OH (c:Nat->ChC):(a:List (Fin len×cG))->(jA c a).length=a.length*9
 |[]=>rfl
 |x::a=>by simp[jA,de,OH c a]; omega
def w8 (c:Nat->ChC) (F:Nat->Prop) (y:Nat->az.den) (x:Fin len×cG) (X Y:World):Prop:=
 ∃ F',bu Y F' az (y x.1.1) (mH c x)/\∀ q,F' q->(F q\/X.heap.size<=q)/\∃ arr ty p,Y.heap[q]? = some (.cells arr ty p)
def Fa (w:World) (c:Nat->ChC) (F:Nat->Prop) (y:Nat->az.den) (els pre:List (Fin len×cG)) (W:World) (v:Value) (F':Nat->Prop):Prop:=
 W.heap[w.heap.size]? = some (.cells #[v] 116 (0,0))/\W.ownsRow w.heap.size 36 9 v pre.length (jA c pre)/\bU W F' az (els.map λx=>y x.1.1) (jA c els) /\
  ∀ q,F' q->(F q\/w.heap.size<=q)/\v.ownBlock≠some q/\q≠w.heap.size/\∃ arr ty p,W.heap[q]? = some (.cells arr ty p)
structure CoI (w:World) (c:Nat->ChC) (F:Nat->Prop) (y:Nat->az.den) (els pre:List (Fin len×cG)) (W:World):Prop where
 row:∃ v F',Fa w c F y els pre W v F'
 bel:Below w.heap.size w W
def uU {base:Nat} {size:Nat} {k:Nat} (h:W.ownsRow base e size v k xs) (hj:v.ownBlock=some j):base<=j/\∃ cur,W.heap[j]? = some (.cells cur e (0,0)):=by
 rcases h.2 with ⟨rfl,_⟩|⟨g,cap,cur,rfl,hb,hgb,_⟩
 ·simp[Value.ownBlock] at hj
 ·have:g=j:=by simpa[Value.ownBlock] using hj
  subst this;exact⟨hb,_,hgb⟩
def TO {base:Nat} {size:Nat} {k:Nat} (h:W.ownsRow base e size v k xs) {o:Obj} (hj:W.heap[j]? = some o) (hno:∀ cur,o ≠ .cells cur e (0,0)):v.ownBlock=none\/v.ownBlock≠some j:=by
 by_cases he:v.ownBlock=some j
 ·obtain⟨_,cur,hc⟩:=uU h he;rw[hj] at hc;cases hc;exact absurd rfl (hno cur)
 ·exact .inr he
def qd4 {c:Nat->ChC} {y:Nat->az.den} {els pre:List (Fin len×cG)} {row:Option Nat} (h:Fa w c F y els pre W v F') (hg:W.grownBy W' row)
  (hr:∀ r,row=some r->∃ o:Obj,W.heap[r]? = some o/\o.isCells=false):Fa w c F y els pre W' v F':=by
 obtain⟨h1,h2,h3,h4⟩:=h;have hcells:∀ q arr ty p,W.heap[q]? = some (Obj.cells arr ty p)->W'.heap[q]? = W.heap[q]? := λq arr ty p hq=>hg.block q (uaf.1 hq).1 (λe=>by
  obtain⟨o,ho,hc⟩:=hr q e.symm;rw[hq] at ho;cases ho;cases hc)
 refine⟨(hcells _ _ _ _ h1).trans h1,h2.kept hg ?_,h3.mono (λ_ h=>h) (λq hq=>?_),λq hq=>?_⟩
 ·by_cases he:v.ownBlock=row
  ·cases hrow:row with
   |none=>exact .inl (he.trans hrow)
   |some r=>
    obtain⟨o,ho,hc⟩:=hr r hrow;obtain⟨_,cur,hcu⟩:=uU h2 (he.trans hrow);rw[ho] at hcu;cases hcu;cases hc
  ·exact .inr he
 ·obtain⟨_,_,_,arr,ty,p,hc⟩:=h4 q hq;exact hcells _ _ _ _ hc
 ·obtain⟨a1,a2,a3,arr,ty,p,hc⟩:=h4 q hq;exact⟨a1,a2,a3,arr,ty,p,(hcells _ _ _ _ hc).trans hc⟩
def He {c:Nat->ChC} {y:Nat->az.den} (hB:w.heap.size<=B) (els pre:List (Fin len×cG)) {X Y:World} {row:Option Nat} (h:CoI w c F y els pre X) (hg:X.grownBy Y row) (hr:∀ r,row=some r->B<=r/\∃ o:Obj,X.heap[r]? = some o/\o.isCells=false):CoI w c F y els pre Y:=by
 obtain⟨v,F',hrow⟩:=h.row;exact⟨⟨v,F',qd4 hrow hg λr e=>(hr r e).2⟩,h.bel.grown hg h.bel.size (λk e=>uek hB (hr k e).1)⟩
def qx3 {x:az.den} {d:ChC} (h:bu W F az x (o5 d)):bU W F az [x] (de d).toList:=λi z hz=>by
 cases i with
 |zero=>
  simp at hz;subst hz;refine h.2.2.mono (λ_ h=>h) (λ_ _=>rfl) λj u _ hu=>?_;have:(de d)[j]? = some u:=hu;simpa using this
 |succ i=>simp at hz
def qd3 {c:Nat->ChC} {y:Nat->az.den} {pre:List (Fin len×cG)} {x:Fin len×cG} {X Y:World} (h:CoI w c F y pre pre X) (hb:Below X.heap.size X Y) (hF:∀ q,F q->q<w.heap.size) (hE:w8 c F y x X Y):CoI w c F y (pre++[x]) pre Y:=by
 obtain⟨v,F',h1,h2,h3,h4⟩:=h.row;obtain⟨F2,hr,hF2⟩:=hE;have hs:=(uaf.1 h1).1;have hblk:∀ q o,X.heap[q]? = some o->Y.heap[q]? = some o:=λq o hq=>(hb.block q (uaf.1 hq).1).trans hq;refine⟨⟨v,λq=>F' q\/F2 q,hblk _ _ h1,h2.kept (row:=none) ⟨hb.os,hb.tape,hb.output,hb.size,λk hk _=>hb.block k hk⟩ ?_,?_,λq hq=>?_⟩,h.bel.trans (hb.mono (ue0 hs))⟩
 ·cases v.ownBlock with
  |none=>exact .inl rfl
  |some g=>exact .inr (by simp)
 ·rw[uds,GX];refine bU.append (h3.mono (λ_ h=>.inl h) λq hq=>?_) ?_ ?_
  ·obtain⟨_,_,_,arr,ty,p,hc⟩:=h4 q hq;exact(hblk _ _ hc).trans hc.symm
  ·rw[OH,udy];rfl
  ·have:=qx3 hr;exact this.mono (λ_ h=>.inr h) (λ_ _=>rfl)
 ·rcases hq with hq|hq
  ·obtain⟨a1,a2,a3,arr,ty,p,hc⟩:=h4 q hq;exact⟨a1,a2,a3,arr,ty,p,hblk _ _ hc⟩
  ·obtain⟨a1,arr,ty,p,hc⟩:=hF2 q hq;refine⟨a1.elim .inl (λh=>.inr (by omega)),λe=>?_,λe=>?_,arr,ty,p,hc⟩
   ·obtain⟨hge,cur,hcu⟩:=uU h2 e;have hlt:=(uaf.1 hcu).1;rcases a1 with a1|a1
    ·have:=hF q a1;omega
    ·omega
   ·rcases a1 with a1|a1
    ·have:=hF q a1;omega
    ·omega
def MD (w:World) (c:Nat->ChC) (F:Nat->Prop) (y:Nat->az.den) (a:Fin len×cG->Nat->Act) (pre:List (Fin len×cG)) (x:Fin len×cG) (a':Act) (W:World):Prop:=
 CoI w c F y (pre++[x]) pre W/\∃ Bx,w.heap.size<Bx/\W.heap[Bx]? = some (.cells (de ((c x.1.1).set x.2)) 36 (0,0))/\a'=a x Bx
def qd2 {c:Nat->ChC} {y:Nat->az.den} {a:Fin len×cG->Nat->Act} (hB:w.heap.size<=B) (pre:List (Fin len×cG)) (x:Fin len×cG) (a':Act):OwnFrom B (λ(_:Unit) W=>MD w c F y a pre x a' W):=λ_ X Y row hs hg hr=>by
 obtain⟨h0,Bx,h1,h2,h3⟩:=hs;exact⟨He hB _ _ h0 hg hr,Bx,h1,qs h2 hg hr,h3⟩
def qde:(prog.info? 36).map (λi=>(i.zero,i.size,i.bytes))=some (some (.agg #[.int .i64 0,.int .i64 0,.int .i64 0,.int .i64 0,.int .i64 0,.int .i64 0,.int .i64 0,.slice none 0 0,.int .i64 0]),9,88):=by kernel_rfl
def GV (h:W.heap[B]? = some (.cells #[v] t (0,0))):W.cell? ⟨B,0,none⟩=some v/\W.frozen? ⟨B,0,none⟩=false:=by
 constructor<;>simp[World.cell?,World.frozen?,h]
def qt6 (W:World) (arr:Array Value) (t:TypeId) (j:Nat) (u:Value) (h:arr.toList[j]? = some u):(W.alloc (.cells arr t)).cell? ((⟨W.heap.size,0,none⟩:Addr).add j)=some u:=by
 have hb:=aO (World.alloc_heap_new W (.cells arr t)) j;have he:(⟨W.heap.size,0,none⟩:Addr).add j=⟨W.heap.size,j,none⟩:=by unfold Addr.add; split<;>simp_all
 rw[he,hb];simpa using h
def qm1 {X Y:World} {row:Option Nat} (hg:X.grownBy Y row) (h:∀ r,row=some r->∃ arr t p,X.heap[r]? = some (Obj.cells arr t p)):KeepsOthers X Y:=
 ⟨hg.size,λk o hk ho=>(hg.block k (uaf.1 hk).1 (λe=>by
  obtain⟨arr,t,p,hc⟩:=h k e.symm;rw[hk] at hc;cases hc;cases ho)).trans hk⟩
def pJ (v':Value) (h:W.heap[B]? = some (.cells #[v] t (0,0))):(W.setCell ⟨B,0,none⟩ v').heap[B]? = some (.cells #[v'] t (0,0)):=ucz W B 0 _ t v' h
def qvy {base:Nat} {t:Ty} {l:List t.den} (h:W.ownsRow base e t.size v l.length xs) (hr:bU W F t l xs):aA W (λq=>F q\/v.ownBlock=some q) (.sl t) l (λ_ u=>u=v):=by
 rcases h.2 with ⟨rfl,hn⟩|⟨g,cap,cur,rfl,hb,hgb,h1,h2,h3,h4⟩
 ·exact⟨none,0,by rw[hn],by omega,ufa _,λi x hx=>by have:=(uak.1 hx).1; omega⟩
 ·refine⟨some ⟨g,0,none⟩,cap,rfl,h1,h2,λi x hx=>⟨⟨g,0,none⟩,rfl,.inr rfl,(hr i x hx).mono (λ_ h=>.inl h) (λ_ _=>rfl) λj u _ hu=>?_⟩⟩;have he:(⟨g,0,none⟩:Addr).add (i*t.size+j)=⟨g,i*t.size+j,none⟩:=by unfold Addr.add; split<;>simp_all
  rw[he,aO hgb];have hu':=hu;rw[<- h4,ub0] at hu';split at hu'
  ·simpa using hu'
  ·cases hu'
def qau (n : Nat) (hn : 2 <= n) (c : Nat -> ChC) (F : Nat -> Prop) (y : Nat -> az.den) (len : Nat) (hlen : len <= 1000000) (gf : Nat) (lb : Array Value) (eg : ∀ args w, (callFunc gf args).run prog w = .ok (.enter gf args) w) (w : World) (hF : ∀ q, F q -> q < w.heap.size) (S : List (Fin len × cG) -> Prop)
    (hseq : ∀ w0, Below w.heap.size w w0 -> Ac Fence.wide (n - 1) prog gf lb (λx : Fin len × cG => #[mH c x]) (w8 c F y) (Below w.heap.size) S len w0) :
    CallsIn Fence.wide n prog 216 #[.slice none 0 0, .func (.func gf) #[] lb] w λe w' => ∃ v xs F', e = .returned v /\ S xs /\ Below w.heap.size w w' /\
      aA w' F' (.sl az) (xs.map λx => y x.1.1) (λ_ u => u = v) /\ ∀ q, F' q -> (F q \/ w.heap.size <= q) /\ q < w'.heap.size := by
  refine callsIn_of_wp_marks func216 rfl trivial ?_ rfl
  simp only[ntmps216, uco, uc6, udh, Nat.reduceAdd, Nat.reduceSub, ubl, ubm, ucw, ubv, udi, uc1]
  gi_wp2
  have hbel : Below w.heap.size w (w.alloc (.cells #[.slice none 0 0] 116)) := (ufd _ w).alloc (ue4 _) _
  have hbx := World.alloc_heap_new w (.cells #[.slice none 0 0] 116)
  have hsz : (w.alloc (.cells #[.slice none 0 0] 116)).heap.size = w.heap.size + 1 := by simp
  obtain⟨W0, hW0⟩ : ∃ W0, w.alloc (.cells #[.slice none 0 0] 116) = W0 := ⟨_, rfl⟩
  rw[hW0] at hbel hbx hsz |-
  have hI0 : CoI w c F y ([] : List (Fin len × cG)) [] W0 := ⟨⟨_, λ_ => False, hbx, ⟨rfl, .inl ⟨rfl, rfl⟩⟩, λi z hz => by simp at hz, λq hq => hq.elim⟩, hbel⟩
  refine zdc rfl (by omega) rfl trivial eg (hseq W0 hbel)
    (λh k => h.trans k) (λW l o o' hl ho hoc => ⟨rfl, rfl, rfl, by simp, λk hk => World.putObj_heap_other (by omega)⟩) (λ_ => rfl)
    (λpre W => CoI w c F y pre pre W) (λpre X Y row h hg hr => He hbel.size _ _ h hg hr) hI0
    (λpre x a' W => MD w c F y (λx Bx => { tmps := #[.slice none 0 0, .func (.func gf) #[] lb, .pointer (some ⟨w.heap.size, 0, none⟩), undef, .slice none 0 0, .pointer (some ⟨Bx, 0, none⟩), .func (.func gf) #[] lb, mH c x, undef, undef, undef, undef, undef], defers := [] }) pre x a' W)
    (λpre x a' => qd2 hbel.size pre x a') ?assign ?body ?done
  case assign =>
    rintro l pre x X W K hi hb hE hK
    have hi2 := qd3 hi hb hF hE
    unfold mH o5 de
    gi_wp2
    obtain⟨v, F', r1, _⟩ := hi2.row
    have hlt := (uaf.1 r1).1
    exact hK _ _ ((KeepsOthers.alloc _ _).from _) ((ufd _ W).alloc (ue0 hlt) _)
      ⟨He hbel.size _ _ hi2 (ubt W _ none) (λr e => nomatch e), W.heap.size, hlt, World.alloc_heap_new W _, rfl⟩
  case body =>
    rintro l pre x a' W ⟨hi, Bx, hBx, bX, rfl⟩ hlt
    obtain⟨v, F', r1, r2, r3, r4⟩ := hi.row
    obtain⟨i0, hi0, hz0, hz1, hz2⟩ := ufg qde
    have bX' := bX
    unfold de at bX'
    obtain⟨y0, y1, y2, y3, y4, y5, y6, y7, y8⟩ := zjw λj _ => aO bX' j
    obtain⟨hc1, hf1⟩ := GV r1
    have hlt0 := (uaf.1 r1).1
    have hnew := qt6 W (de ((c x.1.1).set x.2)) 36
    have HR := Lib.hid r3
    have HF := Lib.hid r4
    have hbelI := hi.bel
    have hv3f : ∀ (arr : Array Value) (w3 : World), (W.alloc (.cells arr 36)).grownBy w3 v.ownBlock -> w3.heap[w.heap.size]? = some (.cells #[v] 116 (0, 0)) := λarr w3 hg =>
      (hg.block _ (by simp; omega) (λe => (TO r2 r1 (λcur e => by cases e)).elim (λh => by rw[h] at e; cases e) (λh => h e.symm))).trans ((uc8 _ _ _ hlt0).trans r1)
    unfold de at hnew
    gi_wp2_with (first
      | (gi_at_builtin; refine wpListIn_append_own_at _ rfl _ _ 116 rfl w.heap.size 36 i0 _ 9 88 underlying116 hi0 hz0 hz1 hz2 rfl (by decide) _ _ _ rfl (r2.alloc _) ⟨W.heap.size, 0, none⟩ 1 1 _ rfl rfl hnew (by simp[Value.oneCell']) (by simp only[maxLen]; omega) (by omega) (by simp; omega) ?_; intro v' w3 hown' hg3 hnil3 hat3
         have hv3 : w3.heap[w.heap.size]? = some (.cells #[v] 116 (0, 0)) := hv3f _ _ hg3
         obtain⟨hc3, hf3⟩ := GV hv3
         obtain⟨g', cap', cur', rfl, hbase', hgb', hr1, hr2, hr3, hr4⟩ : ∃ g' cap' cur', v' = .slice (some ⟨g', 0, none⟩) (pre.length + 1) cap' /\ w.heap.size <= g' /\ w3.heap[g']? = some (.cells cur' 36 (0, 0)) /\ pre.length + 1 <= cap' /\ cap' <= maxLen /\ cur'.size = cap' * 9 /\ cur'.toList.take ((pre.length + 1) * 9) = jA c pre ++ _ := by
           rcases hown'.2 with ⟨_, h0⟩ | h'
           · exact absurd h0 (by omega)
           · exact h'
         go_frame)
      | gi_in)
    have hownX := r2.alloc (.cells (de ((c x.1.1).set x.2)) 36)
    have hgX : (W.alloc (.cells (de ((c x.1.1).set x.2)) 36)).grownBy w3 v.ownBlock := hg3
    have hg4 := grownBy_setCell' w3 w.heap.size (.slice (some ⟨g', 0, none⟩) (pre.length + 1) cap')
    have hb3 := ((ufd _ W).alloc (ue0 hlt0) _).grown hgX (by simp; omega) (λk e => (uU hownX e).1)
    have hb4 := hb3.setCell (p := ⟨w.heap.size, 0, none⟩) (ue4 _) (.slice (some ⟨g', 0, none⟩) (pre.length + 1) cap')
    have hsame : ∀ q, F' q -> (w3.setCell ⟨w.heap.size, 0, none⟩ (.slice (some ⟨g', 0, none⟩) (pre.length + 1) cap')).heap[q]? = W.heap[q]? := λq hq => by
      obtain⟨_, a2, a3, arr, ty, p, hc⟩ := HF.out q hq
      have hq2 := (uaf.1 hc).1
      exact(uci _ _ q _ a3).trans ((hgX.block q (by simp; omega) (λe => a2 e.symm)).trans (uc8 _ _ _ hq2))
    refine⟨rfl, (((KeepsOthers.alloc W _).trans (qm1 hgX λr e => ?_)).trans (KeepsOthers.setCell w3 _ _)).from _, hb4, ⟨_, F', pJ _ hv3, ?_, HR.out.mono (λ_ h => h) hsame, λq hq => ?_⟩, hbelI.trans hb4⟩
    · obtain⟨_, cur, hc⟩ := uU hownX e
      exact⟨_, _, _, hc⟩
    · have h5 := hown'.kept hg4 (TO hown' hv3 (λcur e => by cases e))
      simpa[GX, jA, de] using h5
    · obtain⟨a1, a2, a3, arr, ty, p, hc⟩ := HF.out q hq
      refine⟨a1, λe => ?_, a3, arr, ty, p, (hsame q hq).trans hc⟩
      have hq2 := (uaf.1 hc).1
      rcases hat3 with h | h
      · exact a2 (h.symm.trans e)
      · rw[h] at e
        simp at e
        omega
  case done =>
    rintro D zs W hD hzs hi hK
    obtain⟨v, F', r1, r2, r3, r4⟩ := hi.row
    obtain⟨hc1, hf1⟩ := GV r1
    have HR := Lib.hid r3
    have HF := Lib.hid r4
    gi_wp2
    refine⟨by simp, .inl ⟨_, _, rfl, run_takeDeferred hK, ?_⟩⟩
    have hs : ∀ q arr ty p, W.heap[q]? = some (Obj.cells arr ty p) -> (W.putObj D (.deferred none)).heap[q]? = W.heap[q]? := λq arr ty p hq => World.putObj_heap_other (λe => by subst e; rw[hK] at hq; cases hq)
    have r2' : W.ownsRow w.heap.size 36 az.size v (zs.map λx => y x.1.1).length (jA c zs) := by rw[udy]; exact r2
    have hd := qvy r2' HR.out
    have hcl : ∀ q, (F' q \/ v.ownBlock = some q) -> (F q \/ w.heap.size <= q) /\ ∃ arr ty p, W.heap[q]? = some (Obj.cells arr ty p) := λq hq => by
      rcases hq with hq | hq
      · obtain⟨a1, _, _, a4⟩ := HF.out q hq
        exact⟨a1, a4⟩
      · obtain⟨b1, cur, b2⟩ := uU r2 hq
        exact⟨.inr b1, _, _, _, b2⟩
    refine⟨_, results_tmp rfl _ _ _, v, zs, _, rfl, hzs, ⟨hi.bel.os, hi.bel.tape, hi.bel.output, by simpa using hi.bel.size, λk hk => (World.putObj_heap_other (by have := hbel.size; omega)).trans (hi.bel.block k hk)⟩, aA.mono (λ_ h => h) (λq hq => ?_) (λ_ _ _ h => h) hd, λq hq => ?_⟩
    · obtain⟨_, arr, ty, p, hc⟩ := hcl q hq
      exact hs q arr ty p hc
    · obtain⟨a1, arr, ty, p, hc⟩ := hcl q hq
      have := (uaf.1 hc).1
      exact⟨a1, by simpa using this⟩
def qdv {l:List ak.den} (hb:∀ b,F b->b<w.heap.size) (hW:Below w.heap.size w W) (hx:aA w F (.sl ak) l (λ_ u=>u=v)) (hf:l.length<=1000000) :
  Calls prog 56 #[v] W λe w'=>∃ s:cG,e = .returned (.slice s.1 s.2.1 s.2.2)/\Below W.heap.size W w' /\
   ∃ F',aA w' F' (.sl ak) l (λ_ u=>u = .slice s.1 s.2.1 s.2.2)/\∀ q,F' q->(F q\/W.heap.size<=q)/\∃ arr ty p,w'.heap[q]? = some (.cells arr ty p):=by
 obtain⟨A,c,rfl,h2,h3,h4⟩:=hx;have hv:bu w F (.sl ak) l (.slice A l.length c):=⟨rfl,⟨λh=>(by cases h),λ⟨cs,h⟩=>(by cases h)⟩,A,c,rfl,h2,h3,h4⟩;have hx':=hv.mono (λ_ h=>h) (λb h=>hW.block b (hb b h));refine(Bc.2 W F (l,()) [.slice A l.length c] (λb h=>ub9 (hb b h) hW.size) ⟨_,[],rfl,hx',rfl⟩ hf).mono ?_;rintro e w' ⟨u,F',rfl,hbel,h1,h2,h3⟩;have h3':=h3;have h4':=h3'.only (G:=λb=>F' b/\∃ arr ty p,w'.heap[b]? = some (.cells arr ty p)) (λb h hc=>⟨h,hc⟩) rfl;have h5:aE prog w' (λb=>F' b/\∃ arr ty p,w'.heap[b]? = some (.cells arr ty p)) (λ_ _=>True) (dE (.sl ak) l) u:=fT h4';have h6:=h5.2;obtain⟨A2,c2,e2,h7⟩:=h6;subst e2;exact⟨(A2,l.length,c2),rfl,hbel,(λb=>F' b/\∃ arr ty p,w'.heap[b]? = some (.cells arr ty p)),⟨A2,c2,rfl,h7⟩,λq hq=>⟨(h2 q hq.1).1,hq.2⟩⟩
def OI {l:List az.den} (h:aA w F (.sl az) l (λ_ u=>u=v)) :
  ∃ (A:Option Addr) (cap:Nat) (b off:Nat) (c:Nat->ChC),v = .slice A l.length cap/\(0<l.length->A=some ⟨b,off,none⟩/\F b) /\
   (∀ k j u,k<l.length->(de (c k))[j]? = some u->w.cell? ⟨b,off+(k*9+j),none⟩=some u) /\
   ∀ k x,l[k]? = some x->(c k).p 0=x.1/\aA w F (.sl ak) x.2.2.2.2.1 (λ_ u=>u = .slice (c k).A (c k).l (c k).c) /\
    ∀ (s:cG) (Y:World) (F2:Nat->Prop),aA Y F2 (.sl ak) x.2.2.2.2.1 (λ_ u=>u = .slice s.1 s.2.1 s.2.2)->bu Y F2 az x (o5 ((c k).set s)):=by
 obtain⟨A,cap,h0,h1,h2,h3⟩:=h;by_cases hp:0<l.length
 ·obtain⟨ad,hA,hF,hc⟩:=h3 0 l[0] (uap hp);have hsp:ad.spot=none:=by
   have hc':w.cell? (ad.add (0*az.size+0))=some (.int .i64 l[0].1):=hc.1.1;have he:ad.add (0*az.size+0)=ad:=by simp[Addr.add]
   rw[he] at hc';unfold World.cell? at hc';split at hc'
   ·split at hc'
    ·cases hc'
    ·rename_i hsp;cases hsp2:ad.spot with
     |none=>rfl
     |some _=>rw[hsp2] at hsp; exact absurd rfl hsp
   ·cases hc'
  obtain⟨b,off,sp⟩:=ad;subst hsp;have hall:∀ k,∃ d:ChC,∀ x,l[k]? = some x->(∀ j u,(de d)[j]? = some u->w.cell? ⟨b,off+(k*9+j),none⟩=some u)/\d.p 0=x.1/\aA w F (.sl ak) x.2.2.2.2.1 (λ_ u=>u = .slice d.A d.l d.c) /\
    ∀ (s:cG) (Y:World) (F2:Nat->Prop),aA Y F2 (.sl ak) x.2.2.2.2.1 (λ_ u=>u = .slice s.1 s.2.1 s.2.2)->bu Y F2 az x (o5 (d.set s)):=by
   intro k;cases hk:l[k]? with
   |none=>exact⟨⟨λ_=>0,none,0,0⟩,λx hx=>by cases hx⟩
   |some x=>
    obtain⟨ad',hA',_,hr⟩:=h3 k x hk;rw[hA] at hA';cases hA';obtain⟨d,hd,hd0⟩:=qdf hr;refine⟨d,λy hy=>?_⟩;cases hy;refine⟨λj u hj=>?_,hd0⟩;have:=hd j u hj;rw[show az.size=9 from rfl] at this;have e:(⟨b,off,none⟩:Addr).add (k*9+j)=⟨b,off+(k*9+j),none⟩:=by unfold Addr.add; split<;>simp_all
    rw[e] at this;exact this
  obtain⟨c,hcc⟩:=Classical.axiomOfChoice hall;exact⟨A,cap,b,off,c,h0.symm,λ_=>⟨hA,hF⟩,λk j u hk hj=>(hcc k l[k] (uap hk)).1 j u hj,λk x hx=>(hcc k x hx).2⟩
 ·refine⟨A,cap,0,0,λ_=>⟨λ_=>0,none,0,0⟩,h0.symm,λh=>absurd h hp,λk j u hk=>absurd hk (by omega),λk x hx=>?_⟩;have:=(uak.1 hx).1;omega
def qa (day:Int) (l:List az.den):List az.den:=l.filter λx=>decide (x.1<=day)
def qeb {c:Nat->ChC} {l:List az.den} (hc:∀ k x,l[k]? = some x->(c k).p 0=x.1):(jB c day l.length).map (λk=>l.getD k az.dflt)=qa day l:=by
 have hl:l=(List.range l.length).map (λk=>l.getD k az.dflt):=by
  apply List.ext_getElem
  ·simp
  ·intro i h1 h2;simp[uap h1]
 unfold qa
 conv=>rhs; rw[hl]
 rw[List.filter_map];congr 1;apply List.filter_congr;intro k hk;have hk':=ud5.1 hk;have h1:=hc k l[k] (uap hk');simp only[Function.comp_apply,uah,uap hk',uda];rw[h1]
def qd7 (n:Nat) (hn:3<=n) (c:Nat->ChC) (F:Nat->Prop) (y:Nat->az.den) (len:Nat) (hlen:len<=1000000) (gf:Nat) (lb:Array Value) (eg:∀ args w,(callFunc gf args).run prog w = .ok (.enter gf args) w) (w:World) (hF:∀ q,F q->q<w.heap.size) (S:List (Fin len×cG)->Prop)
  (hseq:∀ w0,Below w.heap.size w w0->Ac Fence.wide (n-1-1) prog gf lb (λx:Fin len×cG=>#[mH c x]) (w8 c F y) (Below w.heap.size) S len w0) :
  CallsIn Fence.wide n prog 196 #[.func (.func gf) #[] lb] w λe w'=>∃ v xs F',e = .returned v/\S xs/\Below w.heap.size w w' /\
   aA w' F' (.sl az) (xs.map λx=>y x.1.1) (λ_ u=>u=v)/\∀ q,F' q->(F q\/w.heap.size<=q)/\q<w'.heap.size:=by
 refine callsIn_of_wp func196 rfl trivial ?_ rfl;simp only[ntmps196,uco,uc6,udh,Nat.reduceAdd,Nat.reduceSub,ubl,ubm,ucw,ubv,udi,uc1]
 gi_wp2
 refine⟨uT,λ_=>by omega,?_⟩;refine(qau (n-1) (by omega) c F y len hlen gf lb eg w hF S hseq).mono ?_;rintro e w' ⟨v,xs,F',rfl,hS,hb,hr,hq⟩
 gi_wp2
 go_ret
 exact⟨v,xs,F',rfl,hS,hb,hr,hq⟩
def zct (n:Nat) (hn:1<=n) (hF:∀ q,F q->q<w.heap.size) {l:List az.den} {Bh oh Bd od:Nat} (hBh:Bh<w.heap.size) (hBd:Bd<w.heap.size) (hv:w.cell? ⟨Bh,oh+9,none⟩=some v) (hday:w.cell? ⟨Bd,od,none⟩=some (.int .i64 day)) (hl:l.length<=1000000) (hfew:∀ x∈l,x.2.2.2.2.1.length<=1000000)
  {A:Option Addr} {cap b off:Nat} {c:Nat->ChC} (e0:v = .slice A l.length cap) (hA:0<l.length->A=some ⟨b,off,none⟩/\F b) (hc:∀ k j u,k<l.length->(de (c k))[j]? = some u->w.cell? ⟨b,off+(k*9+j),none⟩=some u)
  (hx:∀ k x,l[k]? = some x->(c k).p 0=x.1/\aA w F (.sl ak) x.2.2.2.2.1 (λ_ u=>u = .slice (c k).A (c k).l (c k).c) /\
    ∀ (s:cG) (Y:World) (F2:Nat->Prop),aA Y F2 (.sl ak) x.2.2.2.2.1 (λ_ u=>u = .slice s.1 s.2.1 s.2.2)->bu Y F2 az x (o5 ((c k).set s)))
  (w0:World) (hw0:Below w.heap.size w w0) :
  Ac Fence.wide n prog 217 #[.pointer (some ⟨Bh,oh,none⟩),.pointer (some ⟨Bd,od,none⟩)] (λx:Fin l.length×cG=>#[mH c x]) (w8 c F λk=>l.getD k az.dflt) (Below w.heap.size) (λxs=>xs.map (λx=>x.1.1)=jB c day l.length) l.length w0:=by
 intro lp J W hW hJ hY h0;have hwW:=hw0.trans (hW.mono hw0.size);refine zcs n hn lp Bh oh Bd od w.heap.size b off l.length cap day c hl A (λh=>⟨(hA h).1,hF b (hA h).2⟩) (w8 c F λk=>l.getD k az.dflt) J (λpre X Y hj hb=>Ah hJ hj hb) W hwW.size ?_ ?_
  ((ubb (hwW.block Bh hBh)).trans (hv.trans (by rw[e0]))) ((ubb (hwW.block Bd hBd)).trans hday) (λk j u hk hj=>(ubb (hwW.block b (hF _ (hA (by omega)).2))).trans (hc k j u hk hj)) h0
 ·intro k X hX;have hk:=uap k.2;obtain⟨_,hr,hset⟩:=hx k.1 _ hk;refine(qdv hF (hwW.trans hX.1) hr (hfew _ (udf k.2))).mono ?_;rintro e w' ⟨s,rfl,hb,F',hr2,hq⟩;refine⟨s,rfl,hb,λBx X0 Y h1 h2 h3 h4=>⟨F',?_,λq hq'=>?_⟩⟩
  ·have hg:(l.getD k.1 az.dflt)=l[k.1]:=by rw[uah,hk]; rfl
   show bu Y F' az (l.getD k.1 az.dflt) (mH c (k,s));rw[hg];refine hset s Y F' (aA.mono (λ_ h=>h) (λq hq'=>h4 q λe=>?_) (λ_ _ _ h=>h) hr2);rcases(hq q hq').1 with h|h
   ·have:=hF q h;omega
   ·omega
  ·obtain⟨a1,arr,ty,p,hcc⟩:=hq q hq';refine⟨a1.elim .inl λh=>.inr (uek h3 h),arr,ty,p,(h4 q λe=>?_).trans hcc⟩;rcases a1 with h|h
   ·have:=hF q h;omega
   ·omega
 ·intro pre x X0 X hj hb hE hlt;obtain⟨fn,tmps,assign,body,hy,hR⟩:=hY pre x X0 X hj hb hE hlt;refine⟨fn,tmps,assign,body,hy,hR.mono ?_⟩;rintro e W' ⟨rfl,hj2,hb2⟩;exact⟨rfl,hj2,hb2,hb2.block _ hBh,hb2.block _ hBd⟩
def qd6 (hF:∀ q,F q->q<w.heap.size) {l:List az.den} {Bh Bd:Nat} (hBh:Bh<w.heap.size) (hBd:Bd<w.heap.size) (hv:w.cell? ⟨Bh,9,none⟩=some v) (hr:aA w F (.sl az) l (λ_ u=>u=v)) (hday:w.cell? ⟨Bd,0,none⟩=some (.int .i64 day))
  (hl:l.length<=1000000) (hfew:∀ x∈l,x.2.2.2.2.1.length<=1000000) :
  Calls prog 196 #[.func (.func 217) #[] #[.pointer (some ⟨Bh,0,none⟩),.pointer (some ⟨Bd,0,none⟩)]] w λe w'=>∃ u F',e = .returned u/\Below w.heap.size w w' /\
   aA w' F' (.sl az) (qa day l) (λ_ u'=>u'=u)/\∀ q,F' q->(F q\/w.heap.size<=q)/\q<w'.heap.size:=by
 obtain⟨A,cap,b,off,c,e0,hA,hc,hx⟩:=OI hr;refine(callsIn_wide.1 (qd7 4 (by omega) c F (λk=>l.getD k az.dflt) l.length hl 217 _ (enters_of func217 (by kernel_rfl) rfl) w hF (λxs=>xs.map (λx=>x.1.1)=jB c day l.length)
  (λw0 hw0=>zct 2 (by omega) hF hBh hBd (oh:=0) hv hday hl hfew e0 hA hc hx w0 hw0))).mono ?_
 rintro e w' ⟨u,xs,F',rfl,hS,hb,hr2,hq⟩;refine⟨u,F',rfl,hb,?_,hq⟩;have:(xs.map λx=>l.getD x.1.1 az.dflt)=qa day l:=by
  rw[<- qeb (c:=c) λk x h=>(hx k x h).1,<- hS,List.map_map];rfl
 rw[<- this];exact hr2
end
def PU (l:List az.den):Prop:=l.length<=1000000/\∀ x∈l,x.2.2.2.2.1.length<=1000000
def Hf (_:Nat) (g:FuncId) (args:List AV) (s:St):Option Tr:=
 if g=196 then match args with
  |[.c (.fn f [.ptr i 0,.ptr k 0])]=>match s.mem i,s.mem k with
   |some (.box _ [_,_,_,_,_,_,_,_,_,.sl t l]),some (.box _ [.int .i64 day])=>
    if h:t=az then if f=217 then some (needL [PU (cA h l)] (.leaf (.val (.c (.sl az (qa day (cA h l))))) s)) else none else none
   |_,_=>none
  |_=>none
 else none
def qd5:gQ prog Hf:=by
 intro d g args s t ht;unfold Hf at ht;split at ht<;>try trivial
 rename_i hg;subst hg;split at ht<;>try trivial
 rename_i f i k;split at ht<;>try trivial
 rename_i ty1 c0 c1 c2 c3 c4 c5 c6 c7 c8 t l ty2 day hm1 hm2;split at ht<;>try trivial
 rename_i h;subst h;split at ht<;>try trivial
 rename_i hf;subst hf;cases ht;refine⟨enters_of func196 (by kernel_rfl) rfl,λE a w F γ vs Q hi hr hq=>?_⟩;obtain⟨⟨hf1,hf2⟩,hqv⟩:=hq
 match vs,hr with
 |[v1],⟨⟨_,hv1⟩,_⟩=>
  obtain⟨arr,rfl,hsz,hcaps⟩:=hv1;obtain⟨⟨u0,hu0,_,b1,hR1,rfl⟩,⟨u1,hu1,_,b2,hR2,rfl⟩,_⟩:=hcaps;have g1 : .pointer (some ⟨b1,0,none⟩)=γ i:=by
   have:=hR1;unfold ap at this;rw[hm1] at this;exact this
  have g2 : .pointer (some ⟨b2,0,none⟩)=γ k:=by
   have:=hR2;unfold ap at this;rw[hm2] at this;exact this
  have ha:arr = #[.pointer (some ⟨b1,0,none⟩),.pointer (some ⟨b2,0,none⟩)]:=by
   apply ufh
   ·exact hsz
   ·intro i h1 h2;have hu1':arr[1]? = some (.pointer (some ⟨b2,0,none⟩)):=hu1
    match i,h2 with
    |0,_=>
     rw[uam h1] at hu0;exact udz hu0
    |1,_=>
     rw[uam h1] at hu1';exact udz hu1'
  subst ha;obtain⟨d1,ar1,e1,hb1,_,_,hs1,hcl⟩:=hi.mem.ob i _ hm1;obtain⟨d2,ar2,e2,hb2,_,_,hs2,hcl2⟩:=hi.mem.ob k _ hm2;rw[<- g1] at e1;rw[<- g2] at e2;cases e1;cases e2;obtain⟨_,_,_,_,_,_,_,_,_,⟨x9,hx9,_,hr9⟩,_⟩:=hcl;obtain⟨⟨y0,hy0,_,hd0⟩,_⟩:=hcl2;have hday:y0 = .int .i64 day:=hd0.1;subst hday;refine(qd6 (dv hi) (uaf.1 hb1).1 (uaf.1 hb2).1 ((aO hb1 9).trans hx9) hr9 ((aO hb2 0).trans hy0) hf1 hf2).mono λe w2 hp=>?_;obtain⟨u,F2,rfl,hb,hr2,hq2⟩:=hp;have hBs:=nM hi;obtain⟨s1,m1⟩:=Step.below hi.mem hBs (dv hi) (F':=λq=>F q\/F2 q) hb (λ_ h=>.inl h) (λb hb'=>hb'.elim (λh=>⟨.inl h,ub9 (dv hi b h) hb.size⟩) (λh=>hq2 b h));have hinv:InvG prog E s a w2 [] (λq=>F q\/F2 q) γ:=by
   refine⟨hi.n,hi.df,?_,m1,λt=>(hi.sl t).mono s1.hF s1.hw s1.hR,hi.hg,λt=>s1.repA (hi.gh t)⟩;obtain⟨γ0,h0⟩:=hi.step;exact⟨γ0,h0.trans s1⟩
  have hr3:aA w2 (λq=>F q\/F2 q) (.sl az) (qa day (cA rfl l)) (λ_ u'=>u'=u):=aA.mono (t:=.sl az) (λ_ h=>Or.inr h) (λ_ _=>rfl) (λ_ _ _ h=>h) hr2;refine⟨_,_,_,γ,hqv,hinv,u,rfl,?_,hr3⟩;obtain⟨A,c,e1,_⟩:=hr2;rw[<- e1];rfl
noncomputable def Fi:FuncId->Option (Func×(Nat->St->Option Tr)):=cu [(197,(f197,bw))]
def ZU:∀ f fn Λ,Fi f=some (fn,Λ)->prog.funcs[f]? = some fn/\∀ c E',fn.body=some c->bP prog E' Λ c 0:=λf fn Λ h=>by
 simp only[Fi,cu] at h;split at h
 ·rename_i hf;subst hf;cases h;exact⟨by kernel_rfl,λc E' _=>aY c 0⟩
 ·cases h
noncomputable def Xz:Cx:=cW [(56,mB ak)] [] (iS (fU prog dB Fi) Hf)
def X1:CxOK prog Xz:=cZ (ps:=[]) aG ⟨Bc,uT⟩ trivial (jN (gG aH ZU) qd5)
def Tf:aC.den:=(0,0,((0,0,()),(0,0,0,0,()),[],()),[],())
def iA (h:aC.den) (d:Int):aC.den×Int:=if d<h.2.1 then (Tf,7) else ((h.1,h.2.1,h.2.2.1,qa d h.2.2.2.1,()),0)
def qx:Ct:=⟨[.d aC,.d i64],[aC,i64],λx=>((iA x.1 x.2.1).1,(iA x.1 x.2.1).2,()),λx=>[bL x.1]⟩
def BU (x:ag [.d aC,.d i64]):Fr (aa [aC,i64]):=
 let h:aC.den:=x.1; let d:Int:=x.2.1
 Jb (decide (h.2.1>d)) (Jv (Tf,7,()))
  (Jd (List.length (α:=ak.den) h.2.2.1.2.2.1<=1000000)
   (Jd (PU h.2.2.2.1)
    (Jv ((h.1,h.2.1,((h.2.2.1.1.1,h.2.2.1.1.2.1,()),(h.2.2.1.2.1.1,h.2.2.1.2.1.2.1,h.2.2.1.2.1.2.2.1,h.2.2.1.2.1.2.2.2.1,()),((mB ak).f (h.2.2.1.2.2.1,())).1,()),qa d h.2.2.2.1,()),0,()))))
def qop:af prog 167 (bg [.d aC,.d i64] [aC,i64] BU):=
 aS X1 f167 (fr:=BU) (ps:=[.d aC,.d i64]) (rs:=[aC,i64])
def qon (h:aC.den) (d:Int) (hf:bL h):(BU (h,d,())).ok/\(BU (h,d,())).get=((iA h d).1,(iA h d).2,()):=by
 unfold iA;by_cases h1:d<h.2.1
 ·rw[if_pos h1];exact aZ (by simpa using h1) ⟨uT,rfl⟩
 ·rw[if_neg h1];exact aR (by simpa using h1) (aF hf.2.1 (aF ⟨uek hf.1 (by decide),hf.2.2⟩ ⟨uT,rfl⟩))
def qoo:af prog 167 qx:=
 cQ qop _ _ (λw F x vs hr hok=>by
  obtain⟨h,d,_⟩:=x;exact qon h d hok)
def qa0 {h:aC.den} (hf:bL h) (d:Int):bL (iA h d).1:=by
 unfold iA;split
 ·exact⟨by decide,by decide,λc hc=>by cases hc⟩
 ·refine⟨uek (List.length_filter_le _ _) hf.1,hf.2.1,λc hc=>hf.2.2 c (List.mem_filter.1 hc).1⟩
def gH (h:aC.den) (t:b8.den) (d:Int):List aB.den×Int:=if (iA h d).2=0 then c9 (iA h d).1 t else ([],(iA h d).2)
def ov:Ct:=⟨[.d aC,.d b8,.d i64],[zel,i64],λx=>((gH x.1 x.2.1 x.2.2.1).1,(gH x.1 x.2.1 x.2.2.1).2,()),λx=>[bL x.1,bJ x.2.1]⟩
noncomputable def X4:Cx:=cx [(167,qx),(65,fN)] []
def X5:CxOK prog X4:=aP (ps:=[]) aG ⟨qoo,CN,uT⟩ trivial
abbrev lQ:Pt:=⟨21,0,⟨[(10,.d i64),(9,.d i64),(8,.d (.sl ak)),(1,.d i64)],[.x 4 125 ak,.r 4 4 0]⟩,⟨[],[.x 4 125 ak,.r 4 4 0]⟩,⟨[(5,.d .bool)],[.x 4 125 ak,.r 4 4 0]⟩⟩
def PP (z:lQ.M.X):Fr lQ.Out:=
 let i:Int:=z.1.1; let n:Int:=z.1.2.1; let l:List ak.den:=z.1.2.2.1; let p:Int:=z.1.2.2.2.1; let o:ak.den:=z.2.1
 let e:ak.den:=l.getD i.toNat ak.dflt
 Jb (decide (i<n))
  (Jd (0<=i/\i<(l.length:Int)) (Jb (e.1==p) (Jv (Rd.back ((true,()),(e,())))) (Jv (Rd.next ((I6.wrap (i+1),n,l,p,()),(o,()))))))
  (Jv (Rd.out ((),(o,()))))
def qyx:ae prog (au f121 0) lQ.M lQ PP:=ae.of_run aH (bs:=0) rfl rfl rfl (λ_=>aY _ 0) (λx=>by kernel_rfl)
def jM:ak.den:=(0,0,0,0,0,())
def dZ (p:Int):List ak.den->ak.den×Bool
 |[]=>(jM,false)
 |c::l=>if c.1=p then (c,true) else dZ p l
def Qv {p:Int}:{l:List ak.den}->(dZ p l).2=false->(dZ p l).1=jM
 |[],_=>rfl
 |c::l,h=>by
  unfold dZ at h |-;split at h
  ·cases h
  ·rename_i hn;rw[if_neg hn];exact Qv h
structure InFi (i n:Int) (l:List ak.den):Prop where
 i0:0<=i
 il:i<=n
 nl:n=l.length
 big:n<=9223372036854775807
def TD (o:ak.den) (r:ak.den×Bool):Fr lQ.Out:=Jb r.2 (Jv (Rd.back ((true,()),(r.1,())))) (Jv (Rd.out ((),(o,()))))
def MG (z:lQ.M.X):Fr lQ.Out:=Jd (InFi z.1.1 z.1.2.1 z.1.2.2.1) (TD z.2.1 (dZ z.1.2.2.2.1 (z.1.2.2.1.drop z.1.1.toNat)))
def qpq (i n:Int) (l:List ak.den) (p:Int) (o:ak.den) (hinv:InFi i n l) (Q:lQ.Out->Prop) (hq:(TD o (dZ p (l.drop i.toNat))).satP Q) :
  (PP ((i,n,l,p,()),(o,()))).satP λ
   |.next x'=>InFi x'.1.1 x'.1.2.1 x'.1.2.2.1/\((x'.1.2.1:Int)-x'.1.1).toNat<(n-i).toNat/\(MG x').satP Q
   |.out y=>Q (.out y)
   |.back z=>Q (.back z)
   |.pan p=>Q (.pan p):=by
 obtain⟨h1,h2,rfl,h4⟩:=hinv;refine⟨λhi=>?_,λhi=>?_⟩
 ·have hi':i<(l.length:Int):=ucv hi;obtain⟨k,rfl⟩:∃ n:Nat,i=n:=⟨i.toNat,by omega⟩;have hl:k<l.length:=by omega
  have hk:(k:Int).toNat=k:=by omega
  have hk1:((k:Int)+1).toNat=k+1:=by omega
  rw[hk] at hq;have hw:I6.wrap ((k:Int)+1)=k+1:=IntWalk.i64_in _ (by omega);have g1:l.getD (k:Int).toNat ak.dflt=l[k]:=by
   rw[hk,uah,uap hl]; rfl
  rw[ual hl] at hq;rw[g1,hw];refine⟨⟨by omega,by omega⟩,λhb=>?_,λhb=>?_⟩
  ·have hb':=ufc.1 hb;have e:dZ p (l[k]::l.drop (k+1))=(l[k],true):=if_pos hb';rw[e] at hq;exact hq.1 rfl
  ·have hb':=ubu.1 hb;have e:dZ p (l[k]::l.drop (k+1))=dZ p (l.drop (k+1)):=if_neg hb';rw[e] at hq;have hI:InFi ((k:Int)+1) (l.length:Int) l:=⟨by omega,by omega,rfl,h4⟩;refine⟨hI,by show((l.length:Int)-((k:Int)+1)).toNat<((l.length:Int)-(k:Int)).toNat; omega,hI,?_⟩;exact hq
 ·have hi':¬ i<(l.length:Int):=ucf hi;have:l.drop i.toNat=[]:=ua1 (by omega);rw[this] at hq;exact hq.2 rfl
def qqx:ae prog (.loop (au f121 0)) lQ.M lQ MG:=by
 refine ae.loop qyx (μ:=λx=>((x.1.2.1:Int)-x.1.1).toNat) ?_ (λx Q h=>h.1);rintro⟨⟨i,n,l,p,_⟩,o,_⟩ hinv Q hq;exact qpq i n l p o hinv Q hq.2
def A6:Ct:=⟨[.d (.sl ak),.d i64],[ak,.bool],λx=>((dZ x.2.1 x.1).1,(dZ x.2.1 x.1).2,()),λ_=>[]⟩
def qk7 (x:ag [.d (.sl ak),.d i64]):Fr (aa [ak,.bool]):=
 let l:List ak.den:=x.1; let p:Int:=x.2.1
 Jd (InFi 0 l.length l) (Jb (dZ p (l.drop (0:Int).toNat)).2 (Jv ((dZ p (l.drop (0:Int).toNat)).1,true,())) (Jv (jM,false,())))
def qku:af prog 121 A6:=
 cQ (cS aH qqx (fr:=qk7)) _ _
  (λw F x vs hr _=>by
   obtain⟨l,p,_⟩:=x;obtain⟨v1,vs1,rfl,h1,_⟩:=hr;have hlen:=mv h1;have hI:InFi 0 (l.length:Int) l:=⟨ue5 _,ub2 _,rfl,hlen⟩;refine aF hI ?_;show(Jb (dZ p l).2 (Jv ((dZ p l).1,true,())) (Jv (jM,false,())):Fr (aa [ak,.bool])).ok/\(Jb (dZ p l).2 (Jv ((dZ p l).1,true,())) (Jv (jM,false,())):Fr (aa [ak,.bool])).get=((dZ p l).1,(dZ p l).2,());cases hf:(dZ p l).2 with
   |true=>exact aZ rfl ⟨uT,rfl⟩
   |false=>
    rw[Qv hf];exact aR rfl ⟨uT,rfl⟩)
def wY:Pc:=⟨[.d .bool,.d i64],[],λ_=>(),λx=>!x.1,λx=>⟨251+1000000,.i64,x.2.1⟩,λ_=>[]⟩
def zcl:jz prog 117 wY:=by
 refine⟨enters (fn:=f117) (by kernel_rfl) rfl rfl,λw F xs vs hb hr _=>?_⟩;obtain⟨v,vs',rfl,hv,v2,vs'',rfl,hv2,hn⟩:=hr;cases hn;obtain⟨s,n,_⟩:=xs;have hv':v = .bool s:=by
  have h:aE prog w F (λ_ _=>True) (dE .bool s) v:=fT hv;exact h.2
 have hv2':v2 = .int .i64 n:=by
  have h:aE prog w F (λ_ _=>True) (dE i64 n) v2:=fT hv2;exact h.2.1
 subst hv';subst hv2';cases s
 ·go_enter func117,ntmps117
  go_wp2
  refine⟨rfl,.inr ⟨rfl,?_,ufd _ _⟩⟩;show Ending.panicked _=Ending.panicked [{ v:=PV.val ⟨251+1000000,.i64,n⟩,recovered:=false }];rw[WF (p:=⟨251+1000000,.i64,n⟩) (T:=251) rfl]
 ·go_enter func117,ntmps117
  go_wp2
  go_end0
  refine .inl ⟨rfl,.tuple #[],F,rfl,ufd _ _,λ_ h=>h,λb h=>⟨.inl h,hb b h⟩,#[],rfl,rfl⟩
def qkw {b1 b2:Nat} {t1 t2:TypeId} {a0 a1 a2 a3 a4 c v0 v1 v2 v3 v4:Value} (hne:b1≠b2) (h1:w.heap[b1]? = some (.cells #[a0,a1,a2,a3,a4] t1 (0,0))) (h2:w.heap[b2]? = some (.cells #[c] t2 (0,0))) :
  Aa (((((((w.setCell ⟨b1,0,none⟩ v0).setCell ⟨b1,1,none⟩ v1).setCell ⟨b1,2,none⟩ v2).setCell ⟨b1,3,none⟩ v3).setCell ⟨b1,4,none⟩ v4).setCell ⟨b2,0,none⟩ u).drew) ((w.setRow b1 #[v0,v1,v2,v3,v4]).setRow b2 #[u]):=by
 have d1:∀ X:World,X.drew.os=X.os/\X.drew.tape=X.tape/\X.drew.output=X.output/\X.drew.heap=X.heap:=λ_=>⟨rfl,rfl,rfl,rfl⟩;have d2:∀ (X:World) (a:Addr) (v:Value),(X.setCell a v).os=X.os/\(X.setCell a v).tape=X.tape/\(X.setCell a v).output=X.output:=λ_ _ _=>⟨rfl,rfl,rfl⟩;have d3:∀ (X:World) (b:Nat) (v:Array Value),(X.setRow b v).os=X.os/\(X.setRow b v).tape=X.tape/\(X.setRow b v).output=X.output:=λ_ _ _=>⟨rfl,rfl,rfl⟩;unfold Aa;simp only[(d1 _).1,(d1 _).2.1,(d1 _).2.2.1,(d2 _ _ _).1,(d2 _ _ _).2.1,(d2 _ _ _).2.2,(d3 _ _ _).1,(d3 _ _ _).2.1,(d3 _ _ _).2.2,ufk,and_true];have g0:=ucz w b1 0 _ t1 v0 h1;rw[show(#[a0,a1,a2,a3,a4]:Array Value).setIfInBounds 0 v0 = #[v0,a1,a2,a3,a4] from rfl] at g0;have g1:=ucz _ b1 1 _ t1 v1 g0;rw[show(#[v0,a1,a2,a3,a4]:Array Value).setIfInBounds 1 v1 = #[v0,v1,a2,a3,a4] from rfl] at g1;have g2:=ucz _ b1 2 _ t1 v2 g1;rw[show(#[v0,v1,a2,a3,a4]:Array Value).setIfInBounds 2 v2 = #[v0,v1,v2,a3,a4] from rfl] at g2;have g3:=ucz _ b1 3 _ t1 v3 g2;rw[show(#[v0,v1,v2,a3,a4]:Array Value).setIfInBounds 3 v3 = #[v0,v1,v2,v3,a4] from rfl] at g3;have g4:=ucz _ b1 4 _ t1 v4 g3;have oo:∀ i,i≠b1->(((((w.setCell ⟨b1,0,none⟩ v0).setCell ⟨b1,1,none⟩ v1).setCell ⟨b1,2,none⟩ v2).setCell ⟨b1,3,none⟩ v3).setCell ⟨b1,4,none⟩ v4).heap[i]? = w.heap[i]? := λi hi=>
  (uci _ _ i _ hi).trans ((uci _ _ i _ hi).trans ((uci _ _ i _ hi).trans ((uci _ _ i _ hi).trans (uci _ _ i _ hi))))
 generalize ((((w.setCell ⟨b1,0,none⟩ v0).setCell ⟨b1,1,none⟩ v1).setCell ⟨b1,2,none⟩ v2).setCell ⟨b1,3,none⟩ v3).setCell ⟨b1,4,none⟩ v4=X at g4 oo;have k2:=ucz X b2 0 _ t2 u ((oo b2 (Ne.symm hne)).trans h2);have r1:=ue7 w b1 _ #[v0,v1,v2,v3,v4] t1 (0,0) h1;have r2:=ue7 (w.setRow b1 #[v0,v1,v2,v3,v4]) b2 _ #[u] t2 (0,0) ((uev w b1 b2 _ (Ne.symm hne)).trans h2);apply ucg;intro i;by_cases i1:i=b1
 ·subst i1;exact((uci _ _ i _ hne).trans g4).trans ((uev _ b2 i _ hne).trans r1).symm
 ·by_cases i2:i=b2
  ·subst i2;exact k2.trans r2.symm
  ·exact((uci _ _ i _ i2).trans (oo i i1)).trans ((uev _ b2 i _ i2).trans (uev _ b1 i _ i1)).symm
def zb0:ToldTwo prog 116 251 .i64 5:=by
 refine⟨enters (fn:=f116) (by kernel_rfl) rfl rfl,λp q w=>?_,λb1 b2 t1 t2 o1 o2 n w hne h1 hs1 h2 hs2=>?_⟩
 ·refine callsD_of_wpS func116 rfl λc₀ cs hu=>?_;simp only[ntmps116,uco,uc6,udh,Nat.reduceAdd,Nat.reduceSub,ubl,ubm,ucw,ubv,udi,uc1];apply wpS_seq;apply wpS_region;simp[wpOpsS,go_sem,recoverD,hu,Exit.thenS];refine wpS_of_wp ?_
  go_wp2
  cases c₀
  simp_all[bodyPostS,results,results116]
 ·have hta:∀ w,(Instr.typeAssert (.iface 251 (.agg #[.int .i64 n])) 20 251 false).run prog w = .ok (.agg #[.int .i64 n]) w:=λ_=>by kernel_rfl
  have hfd:∀ w,(Instr.field 251 (.agg #[.int .i64 n]) 0).run prog w = .ok (.int .i64 n) w:=λ_=>by kernel_rfl
  obtain⟨a0,a1,a2,a3,a4,rfl⟩:∃ a0 a1 a2 a3 a4,o1 = #[a0,a1,a2,a3,a4]:=⟨o1[0],o1[1],o1[2],o1[3],o1[4],by
   apply ufh
   ·exact hs1
   ·intro i h1 h2
    match i,h2 with
    |0,_|1,_|2,_|3,_|4,_=>rfl⟩
  obtain⟨c0,rfl⟩:=JO hs2;have x0:=aO h1 0;have x1:=aO h1 1;have x2:=aO h1 2;have x3:=aO h1 3;have x4:=aO h1 4;have y0:=aO h2 0;simp at x0 x1 x2 x3 x4 y0;have f1:∀ j,w.frozen? ⟨b1,j,none⟩=false:=λj=>by simp[World.frozen?,h1]
  have f2:w.frozen? ⟨b2,0,none⟩=false:=by simp[World.frozen?,h2]
  refine callsD_of_wpS func116 rfl λc₀ cs hu=>?_;simp only[ntmps116,uco,uc6,udh,Nat.reduceAdd,Nat.reduceSub,ubl,ubm,ucw,ubv,udi,uc1];apply wpS_seq;apply wpS_region;simp[wpOpsS,go_sem,recoverD,hu,Exit.thenS];refine wpS_of_wp ?_
  go_wp2
  go_region
  go_wp2
  simp[bodyPostS,results,results116];exact qkw hne h1 h2
def Iz (x:ag [.d aC,.d b8,.d i64]):Fr (aa [zel,i64]):=
 let h:aC.den:=x.1; let t:b8.den:=x.2.1; let d:Int:=x.2.2.1
 Jd (bL h) (Jb ((qx.f (h,d,())).2.1 != 0) (Jv ([],(qx.f (h,d,())).2.1,()))
  (Jd (bL (qx.f (h,d,())).1) (Jd (bJ t) (Jv ((fN.f ((qx.f (h,d,())).1,t,())).1,(fN.f ((qx.f (h,d,())).1,t,())).2.1,())))))
def qov:af prog 119 (bg [.d aC,.d b8,.d i64] [zel,i64] Iz):=
 aS X5 f119
def qot (h:aC.den) (t:b8.den) (d:Int) (hf:bL h) (ht:bJ t):(Iz (h,t,d,())).ok/\(Iz (h,t,d,())).get=((gH h t d).1,(gH h t d).2,()):=by
 refine aF hf ?_;unfold gH;by_cases h1:(iA h d).2=0
 ·rw[if_pos h1];exact aR (by show((iA h d).2 != 0)=false; simp[h1]) (aF (qa0 hf d) (aF ht ⟨uT,rfl⟩))
 ·rw[if_neg h1];exact aZ (by show((iA h d).2 != 0)=true; simp[h1]) ⟨uT,rfl⟩
def qou:af prog 119 ov:=
 cQ qov _ _ (λw F x vs hr hok=>by
  obtain⟨h,t,d,_⟩:=x;exact qot h t d hok.1 hok.2)
def Er (e:Int):Prop:=0<=e/\e<=20
def iH:Er 0:=⟨by decide,by decide⟩
def kD:Er 1:=⟨by decide,by decide⟩
def kE:Er 5:=⟨by decide,by decide⟩
def kF:Er 6:=⟨by decide,by decide⟩
def jE:Er 7:=⟨by decide,by decide⟩
def qgz (a b c:Int):Er (cP a b c).2:=by
 unfold cP;split
 ·first|exact iH|exact kD|exact kE|exact kF|exact jE
 ·split
  ·first|exact iH|exact kD|exact kE|exact kF|exact jE
  ·split<;>first|exact iH|exact kD|exact kE|exact kF|exact jE
def NZ:(l:List Int)->(m:Int)->Er (fj l m).2
 |[],_=>iH
 |b::r,m=>by
  unfold fj;split
  ·exact NZ r _
  ·exact qgz _ _ _
def qu7 (v:aQ.den) (r:dG.den) (c:ak.den):Er (dJ v r c).2:=by
 unfold dJ;split
 ·split
  ·first|exact iH|exact kD|exact kE|exact kF|exact jE
  ·split
   ·first|exact iH|exact kD|exact kE|exact kF|exact jE
   ·exact NZ _ _
 ·first|exact iH|exact kD|exact kE|exact kF|exact jE
def E1 (v:aQ.den) (r:dG.den):(l:List ak.den)->(q:Int)->(b:Bool)->Er (ge v r l q b).2.2
 |[],_,_=>iH
 |c::l,q,b=>by
  unfold ge;split
  ·split
   ·split
    ·exact E1 v r l _ _
    ·exact E1 v r l _ _
   ·exact E1 v r l _ _
  ·exact qu7 _ _ _
def zdf (v:aQ.den) (r:dG.den) (l:List ak.den):Er (wl v r l).2:=by
 unfold wl;split
 ·split<;>first|exact iH|exact kD|exact kE|exact kF|exact jE
 ·exact E1 _ _ _ _ _
def HA (v:aQ.den):(l:List aB.den)->Er (dj v l)
 |[]=>iH
 |s::l=>by
  unfold dj;split
  ·split
   ·exact HA v l
   ·exact zdf _ _ _
  ·exact HA v l
def Wx (d:Int):(l:List aQ.den)->Er (cq d l).2
 |[]=>jE
 |v::r=>by
  unfold cq;split
  ·first|exact iH|exact kD|exact kE|exact kF|exact jE
  ·exact Wx d r
def qug (h:aC.den) (t:b8.den):Er (c9 h t).2:=by
 unfold c9;split
 ·split
  ·split
   ·first|exact iH|exact kD|exact kE|exact kF|exact jE
   ·exact HA _ _
  ·exact Wx _ _
 ·first|exact iH|exact kD|exact kE|exact kF|exact jE
def qo7 (h:aC.den) (t:b8.den) (d:Int):Er (gH h t d).2:=by
 unfold gH;split
 ·exact qug _ _
 ·unfold iA;split<;>first|exact iH|exact kD|exact kE|exact kF|exact jE
def Er.inR {e:Int} (h:Er e):inR .i64 e:=by
 obtain⟨h1,h2⟩:=h;have e1:IntKind.i64.min = -9223372036854775808:=by decide
 have e2:IntKind.i64.max=9223372036854775807:=by decide
 unfold Go.Ab.inR;rw[e1,e2];omega
def OK (c:dD.den):Bool:=Bb c.1 c.2.1 c.2.2.1 c.2.2.2.1 c.2.2.2.2.1 c.2.2.2.2.2.1
def OS (l:List aB.den) (c:dD.den):ak.den×Int:=
 if ((dp l c.2.2.2.1).2&&(dp l c.2.2.2.1).1.2.1)=true then
  (if (dZ c.2.2.1 (dp l c.2.2.2.1).1.2.2.2.1).2=true then ((dZ c.2.2.1 (dp l c.2.2.2.1).1.2.2.2.1).1,0) else (jM,11))
 else (jM,11)
def qF (h:aC.den) (t:b8.den) (c:dD.den):ak.den×Int:=
 if OK c=true then
  (if c.2.2.2.1<=c.2.2.2.2.1 then
   (if c.2.1=h.1 then (if (gH h t c.2.2.2.2.1).2=0 then OS (gH h t c.2.2.2.2.1).1 c else (jM,(gH h t c.2.2.2.2.1).2)) else (jM,7))
  else (jM,4))
 else (jM,1)
def Ax:Ct:=⟨[.d aC,.d b8,.d dD],[ak,i64],λx=>((qF x.1 x.2.1 x.2.2.1).1,(qF x.1 x.2.1 x.2.2.1).2,()),λx=>[bL x.1,bJ x.2.1]⟩
noncomputable def LP:Cx:=cx [(118,Gf),(119,ov),(120,tj),(121,A6)] [(117,wY)]
def LQ:CxOK prog LP:=aP aG ⟨qt3,qou,zab,qku,uT⟩ ⟨zcl,uT⟩
def mu (b:Bool) (e:Int) (k:Fr (aa [ak,i64])):Fr (aa [ak,i64]):=
 Jb (wY.bad (b,e,())) (Jd (inR .i64 (wY.pv (b,e,())).n) (Jv ((0,0,0,0,0,()),(wY.pv (b,e,())).n,()))) k
def BR (x:ag [.d aC,.d b8,.d dD]):Fr (aa [ak,i64]):=
 let h:aC.den:=x.1; let t:b8.den:=x.2.1; let c:dD.den:=x.2.2.1
 mu (Gf.f (c,())).1 1 (mu (decide (c.2.2.2.2.1>=c.2.2.2.1)) 4 (mu (c.2.1==h.1) 7 (Jd (bL h) (Jd (bJ t)
  (mu ((ov.f (h,t,c.2.2.2.2.1,())).2.1==0) (ov.f (h,t,c.2.2.2.2.1,())).2.1
   (mu (bif (tj.f ((ov.f (h,t,c.2.2.2.2.1,())).1,c.2.2.2.1,())).2.1 then (tj.f ((ov.f (h,t,c.2.2.2.2.1,())).1,c.2.2.2.1,())).1.2.1 else false) 11
    (mu (A6.f ((tj.f ((ov.f (h,t,c.2.2.2.2.1,())).1,c.2.2.2.1,())).1.2.2.2.1,c.2.2.1,())).2.1 11
     (Jv ((A6.f ((tj.f ((ov.f (h,t,c.2.2.2.2.1,())).1,c.2.2.2.1,())).1.2.2.2.1,c.2.2.1,())).1,0,())))))))))
noncomputable def OQ:Code:=(f72.body.map λc=>ke (ke c)).getD .skip
def qei:af prog 72 (bg [.d aC,.d b8,.d dD] [ak,i64] BR):=
 qf9 LQ (run:=λs=>cr prog LP 0 bw OQ 0 s) (T:=251) (k:=.i64) (m:=5) (fn:=f72) (A:=rh (f72.body.getD .skip)) (c:=OQ) (rid:=1) (ops:=JT (rh (ke (f72.body.getD .skip)))) (td:=12) (ta:=6) (tb:=7) (fr:=BR) (ps:=[.d aC,.d b8,.d dD]) (rs:=[ak,i64]) (aC.dflt,b8.dflt,dD.dflt,())
  (by kernel_rfl) (by kernel_rfl) (by kernel_rfl) zb0 (λE=>tI LQ (aY _ 0)) (λx=>by kernel_rfl)
def wk {b:Bool} {e:Int} {k:Fr (aa [ak,i64])} {y:aa [ak,i64]} (hb:b=true) (hk:k.ok/\k.get=y):(mu b e k).ok/\(mu b e k).get=y:=aR (by show(!b)=false; rw[hb]; rfl) hk
def wj {b:Bool} {e:Int} {k:Fr (aa [ak,i64])} (hb:b=false) (he:inR .i64 e):(mu b e k).ok/\(mu b e k).get=(jM,e,()):=aZ (by show(!b)=true; rw[hb]; rfl) (aF he ⟨uT,rfl⟩)
def qeh (h:aC.den) (t:b8.den) (c:dD.den) (hf:bL h) (ht:bJ t):(BR (h,t,c,())).ok/\(BR (h,t,c,())).get=((qF h t c).1,(qF h t c).2,()):=by
 unfold qF;by_cases h1:OK c=true
 ·rw[if_pos h1];refine wk h1 ?_;by_cases h2:c.2.2.2.1<=c.2.2.2.2.1
  ·rw[if_pos h2];refine wk (by simpa using h2) ?_;by_cases h3:c.2.1=h.1
   ·rw[if_pos h3];refine wk (by simpa using h3) (aF hf (aF ht ?_));by_cases h4:(gH h t c.2.2.2.2.1).2=0
    ·rw[if_pos h4];refine wk (by show((gH h t c.2.2.2.2.1).2==0)=true; simpa using h4) ?_;unfold OS;by_cases h5:((dp (gH h t c.2.2.2.2.1).1 c.2.2.2.1).2&&(dp (gH h t c.2.2.2.2.1).1 c.2.2.2.1).1.2.1)=true
     ·rw[if_pos h5];refine wk ((oc _ _).trans h5) ?_;by_cases h6:(dZ c.2.2.1 (dp (gH h t c.2.2.2.2.1).1 c.2.2.2.1).1.2.2.2.1).2=true
      ·rw[if_pos h6];exact wk h6 ⟨uT,rfl⟩
      ·rw[if_neg h6];exact wj (ucx.2 h6) ⟨by decide,by decide⟩
     ·rw[if_neg h5];exact wj ((oc _ _).trans (ucx.2 h5)) ⟨by decide,by decide⟩
    ·rw[if_neg h4];exact wj (by show((gH h t c.2.2.2.2.1).2==0)=false; simpa using h4) (qo7 h t _).inR
   ·rw[if_neg h3];exact wj (by simpa using h3) ⟨by decide,by decide⟩
  ·rw[if_neg h2];exact wj (by simpa using h2) ⟨by decide,by decide⟩
 ·rw[if_neg h1];exact wj (ucx.2 h1) ⟨by decide,by decide⟩
def OR:af prog 72 Ax:=
 cQ qei _ _ (λw F x vs hr hok=>by
  obtain⟨h,t,c,_⟩:=x;exact qeh h t c hok.1 hok.2)
noncomputable def XZ:Cx:=cx [(90,tl),(51,q9),(267,AA)] []
def Ya:CxOK prog XZ:=aP aG ⟨Pk,Lm,TL,uT⟩ trivial
def qif (x:ag [.d i64,.d i64,.d dm]):Fr (aa [aC,i64]):=
 Jb (bif bif bif decide (x.1<1) then true else decide (x.1>1000000000) then true else !(tl.f (x.2.1,())).1 then true else !(q9.f (x.2.2.1,())).1) (Jv ((0,0,((0,0,()),(0,0,0,0,()),[],()),[],()),1,())) (Jd (List.length x.2.2.1.2.2.1<=1000000) (Jv ((x.1,x.2.1,(AA.f (x.2.2.1,())).1,[],()),0,())))
def qig:af prog 264 (bg [.d i64,.d i64,.d dm] [aC,i64] qif):=
 aS Ya f264
def wI (id bk:Int) (t:dm.den):Bool:=bif bif bif decide (id<1) then true else decide (id>1000000000) then true else !(g8 bk) then true else !(ju t)
def og (id bk:Int) (t:dm.den):aC.den×Int:=bif wI id bk t then (fF,1) else ((id,bk,t,[],()),0)
def Od:Ct:=⟨[.d i64,.d i64,.d dm],[aC,i64],λx=>((og x.1 x.2.1 x.2.2.1).1,(og x.1 x.2.1 x.2.2.1).2,()),λ_=>[]⟩
def VR {t:dm.den} (h:ju t=true):t.2.2.1.length<=1000000:=by
 unfold ju at h;rw[uc9,uc9,uc9] at h;have hc:l7 t.2.2.1=true:=h.2.2.2;unfold l7 at hc;rw[uc9] at hc;have:=ucv hc.1;exact uek this.2 (by decide)
def NM {id bk:Int} {t:dm.den} (h:wI id bk t=false):ju t=true:=by
 unfold wI at h;cases ht:ju t
 ·rw[ht] at h;cases h1:(bif bif decide (id<1) then true else decide (id>1000000000) then true else !(g8 bk))<;>rw[h1] at h<;>cases h
 ·rfl
def qbn:af prog 264 Od:=conv qig _ _ (λ_ _ x _ _ _=>by
 obtain⟨id,bk,t,_⟩:=x;show _/\_=((og id bk t).1,(og id bk t).2,());unfold og;cases h:wI id bk t
 ·exact aR h (aF (VR (NM h)) ⟨uT,rfl⟩)
 ·exact aZ h ⟨uT,rfl⟩)
def NV (id bk:Int) (t:dm.den):bL (og id bk t).1:=by
 unfold og;cases h:wI id bk t
 ·exact⟨by show 0<=500000; omega,VR (NM h),λc hc=>by cases hc⟩
 ·have z:bL fF:=⟨by decide,by decide,λc hc=>by cases hc⟩;exact z
def FZ:Ct:=⟨[.d zjz],[i64],λx=>(nW x.1,()),λ_=>[]⟩
def Gv:Ct:=⟨[.d ar],[i64],λx=>(oR x.1,()),λ_=>[]⟩
def qq (f:factT.den) (g:ar.den):Bool:=bif g.1.2.1==mU f then decide (g.1.2.2.2.2.1>=cC f) else false
def FW:Ct:=⟨[.d ar,.ptr factT],[.bool],λx=>(qq x.2.1 x.1,()),λ_=>[]⟩
def qbi:af prog 266 FZ:=
 conv (aS aH f266 (fr:=λx=>Jv (nW x.1,())) (ps:=FZ.ps) (rs:=[i64])) _ _ (λ_ _ _ _ _ _=>⟨uT,rfl⟩)
def qth:af prog 283 Gv:=
 conv (aS aH f283 (fr:=λx=>Jv (oR x.1,())) (ps:=Gv.ps) (rs:=[i64])) _ _ (λ_ _ _ _ _ _=>⟨uT,rfl⟩)
def qaj:af prog 276 FW:=
 conv (aS aH f276 (fr:=λx=>Jv (qq x.2.1 x.1,())) (ps:=FW.ps) (rs:=[.bool])) _ _ (λ_ _ _ _ _ _=>⟨uT,rfl⟩)
noncomputable def XM:Cx:=cx [(304,G3),(144,fM)] []
def XN:CxOK prog XM:=aP aG ⟨qv9,oT,uT⟩ trivial
abbrev pp:Pt:=⟨28,2,⟨[(14,.d i64),(13,.d i64),(12,.d (.sl ah)),(6,.d i64),(1,.d i64),(5,.d i64),(9,.d i64),(0,.d (.sl ah))],[]⟩,⟨[(6,.d i64),(1,.d i64),(9,.d i64),(0,.d (.sl ah))],[]⟩,⟨[],[]⟩⟩
noncomputable def R8:Code:=((dC (au f300 0) 0).getD .skip)
abbrev DF:Type:=ag [.d i64,.d i64,.d i64,.d i64,.d (.sl ah)]×cR []
def vY (e:ah.den) (s:DF):Fr DF:=
 let a:=s.1.2;Jd (¬a.2.1<0) (Jv ((I6.wrap (s.1.1+(G3.f (e,a.1,a.2.1,())).1),a.1,a.2.1,a.2.2.1,a.2.2.2.1,()),()))
def Lx (x:pp.M.X):Int×List ah.den×DF:=(x.1.1,x.1.2.2.1,x.1.2.2.2,x.2)
def IH (x:pp.M.X):Prop:=x.1.2.1=(x.1.2.2.1.length:Int)
def TF (s:DF):pp.E.X:=((s.1.1,s.1.2.1,s.1.2.2.2.1,s.1.2.2.2.2.1,()),())
def qr0:ae prog (.loop R8) pp.M pp (FF vY Lx IH TF):=
 LF XN (λ_ _=>.n .o) ah.dflt (λx=>x.1.2.1) (λx s=>((I6.wrap (x.1.1+1),x.1.2.1,x.1.2.2.1,s.1),s.2)) (λ_ h=>h)
def zd1 (Γ:Gm):St->Option Tr:=pp.han Γ pp.M (FF vY Lx IH TF)
abbrev v9:Pt:=⟨33,0,⟨[(15,.d i64),(14,.d i64),(13,.d (.sl ah))],[.x 3 42 ah,.r 3 3 0,.y 5 80 [(some 42,ah)],.r 5 5 0]⟩,⟨[],[.x 3 42 ah,.r 3 3 0,.y 5 80 [(some 42,ah)],.r 5 5 0]⟩,⟨[],[]⟩⟩
abbrev zh:Type:=ag []×cR [.x 3 42 ah,.r 3 3 0,.y 5 80 [(some 42,ah)],.r 5 5 0]
def wb (e:ah.den) (s:zh):Fr zh:=
 let b:=s.2.2.1.1;let a:=(e.1,e.2.1,e.2.2.1,e.2.2.2.1,e.2.2.2.2.1,e.2.2.2.2.2.1,e.2.2.2.2.2.2.1,I6.wrap ((BitVec.ofInt I6.bits e.2.2.2.2.2.2.2.1 &&& BitVec.ofInt I6.bits s.2.1.2.2.2.2.2.2.2.1).toNat:Int),());Jd (b.length + [a].length<=maxLen/\(b.length + [a].length)*72<=140737488355328) (Jv ((),s.2.1,(b++[a],()),()))
def Wo (x:v9.M.X):Int×List ah.den×zh:=(x.1.1,x.1.2.2.1,x.1.2.2.2,x.2)
def Re (x:v9.M.X):Prop:=x.1.2.1=(x.1.2.2.1.length:Int)
def qvm (s:zh):v9.E.X:=((),s.2.1,(s.2.2.1.1,()),())
def qss:ae prog (.loop (au f297 0)) v9.M v9 (FF wb Wo Re qvm):=
 LF aH (λ_ _=>.n .o) ah.dflt (λx=>x.1.2.1) (λx s=>((I6.wrap (x.1.1+1),x.1.2.1,x.1.2.2.1,s.1),s.2)) (λ_ h=>h)
abbrev zez:Pt:=⟨22,0,⟨[(9,.d i64),(8,.d i64),(7,.d (.sl factT)),(3,.d i64)],[]⟩,⟨[(3,.d i64)],[]⟩,⟨[],[]⟩⟩
abbrev zff:Type:=ag [.d i64]×cR []
def zer (e:factT.den) (s:zff):Fr zff:=
 Jb (e.2.1==7) (Jv ((if s.1.1<e.2.2.2.2.1 then e.2.2.2.2.1 else s.1.1,()),())) (Jv ((s.1.1,()),()))
def zeu (x:zez.M.X):Int×List factT.den×zff:=(x.1.1,x.1.2.2.1,x.1.2.2.2,x.2)
def zgc (x:zez.M.X):Prop:=x.1.2.1=(x.1.2.2.1.length:Int)
def zgi (s:zff):zez.E.X:=((s.1.1,()),())
def zhr:ae prog (.loop (au f28 0)) zez.M zez (FF zer zeu zgc zgi):=
 LF aH (λ_ _=>.n .o) factT.dflt (λx=>x.1.2.1) (λx s=>((I6.wrap (x.1.1+1),x.1.2.1,x.1.2.2.1,s.1),s.2)) (λ_ h=>h)
def zh2 (y:zez.M.X):zff:=kJ zer ((zeu y).2.1.drop (zeu y).1.toNat) (zeu y).2.2
def zhy (y:zez.M.X):Prop:=pg zer ((zeu y).2.1.drop (zeu y).1.toNat) (zeu y).2.2
abbrev lS:Pt:=⟨28,0,⟨[(9,.d i64),(0,.d (.sl ah)),(1,.d i64)],[]⟩,⟨[],[]⟩,⟨[(4,.d .bool)],[]⟩⟩
def V6 (day peril:Int) (l:List ah.den) (s:Int):Int:=l.foldl (λs t=>I6.wrap (s+CZ t day peril)) s
def OU (day p i:Int) (l0:List ah.den):(l:List ah.den)->(s:Int)->kJ vY l ((s,day,p,i,l0,()),())=((V6 day p l s,day,p,i,l0,()),())
 |[],_=>rfl
 |t::l,s=>OU day p i l0 l (I6.wrap (s+CZ t day p))
def OV (day p i:Int) (hp:¬ p<0) (l0:List ah.den):(l:List ah.den)->(s:Int)->pg vY l ((s,day,p,i,l0,()),())
 |[],_=>trivial
 |t::l,s=>⟨⟨hp,uT⟩,OV day p i hp l0 l (I6.wrap (s+CZ t day p))⟩
abbrev qgm (i:Int) (l:List ah.den) (day:Int):pp.M.X:=((0,((List.length l:Nat):Int),l,0,day,i,i,l,()),())
def QD (x:lS.M.X):Fr lS.Out:=
 let b:=qgm x.1.1 x.1.2.1 x.1.2.2.1;let a:=kJ vY (List.drop 0 x.1.2.1) ((0,x.1.2.2.1,x.1.1,x.1.1,x.1.2.1,()),());Jb (decide (x.1.1<8)) (Jd (InL (IH b) (Lx b))
  (Jd (pg vY (List.drop 0 x.1.2.1) ((0,x.1.2.2.1,x.1.1,x.1.1,x.1.2.1,()),()))
   (Jb (decide (a.1.1>10000)) (Jv (Rd.back ((true,()),())))
    (Jv (Rd.next ((I6.wrap (a.1.2.2.2.1+1),a.1.2.2.2.2.1,a.1.2.1,()),()))))))
  (Jv (Rd.out ((),())))
def qy9:ae prog (au f300 0) lS.M lS QD:=
 ae.of_run aH (bs:=0) (Λ:=λ_=>zd1 dB.Γ) rfl rfl rfl (λE=>oX _ 0 λi b hb=>by
  match i,hb with
  |0,hb=>
   have e:some R8=some b:=by rw[<- hb]; kernel_rfl
   cases e;exact ae.han aH rfl qr0
  |i+1,hb=>exact absurd (ot hb) (by
   have:ce (au f300 0)=1:=by kernel_rfl
   omega)) (λx=>by kernel_rfl)
def tJ (l:List ah.den) (day:Int):Nat->Int->Bool
 |0,_=>false
 |n+1,p=>decide (V6 day p l 0>10000) || tJ l day n (p+1)
def Hk (l:List ah.den) (day:Int):Bool:=tJ l day 8 0
def w9 (i:Int) (l:List ah.den):Prop:=0<=i/\i<=8/\((List.length l:Nat):Int)<=9223372036854775807
def MU (x:lS.M.X):Fr lS.Out:=
 Jd (w9 x.1.1 x.1.2.1) (Jb (tJ x.1.2.1 x.1.2.2.1 (8-x.1.1).toNat x.1.1) (Jv (Rd.back ((true,()),()))) (Jv (Rd.out ((),()))))
def qp9 (i:Int) (l:List ah.den) (day:Int) (hinv:w9 i l) (Q:lS.Out->Prop) (hq:(Jb (tJ l day (8-i).toNat i) (Jv (Rd.back ((true,()),()))) (Jv (Rd.out ((),()))):Fr lS.Out).satP Q) :
  (QD ((i,l,day,()),())).satP λ
   |.next x'=>w9 x'.1.1 x'.1.2.1/\(8-x'.1.1).toNat<(8-i).toNat/\(MU x').satP Q
   |.out y=>Q (.out y)
   |.back z=>Q (.back z)
   |.pan p=>Q (.pan p):=by
 obtain⟨h1,h2,h3⟩:=hinv;by_cases hi:i<8
 ·refine⟨λ_=>⟨⟨rfl,ue5 _,ub2 _,h3⟩,OV day i i (by omega) l (List.drop 0 l) 0,?_⟩,λh=>absurd hi (ucf h)⟩;have hw:I6.wrap (i+1)=i+1:=IntWalk.i64_in _ (by omega);rw[OU,ueb];have hn:(8-i).toNat=(8-(i+1)).toNat+1:=by omega
  rw[hn] at hq;dsimp only[tJ] at hq;refine⟨λhb=>?_,λhb=>?_⟩
  ·have hb':=hb;rw[hb'] at hq;exact hq.1 rfl
  ·have hb':=hb;rw[hb',Bool.false_or] at hq;rw[hw];have hI:w9 (i+1) l:=⟨by omega,by omega,h3⟩;have hm:(8-(i+1)).toNat<(8-i).toNat:=by omega
   exact⟨hI,hm,hI,hq⟩
 ·refine⟨λh=>absurd (ucv h) hi,λ_=>?_⟩;have hn:(8-i).toNat=0:=by omega
  rw[hn] at hq;exact hq.2 rfl
def qrz:ae prog (.loop (au f300 0)) lS.M lS MU:=by
 refine ae.loop qy9 (μ:=λx=>(8-x.1.1).toNat) ?_ (λx Q h=>h.1);rintro⟨⟨i,l,day,_⟩,_⟩ hinv Q hq;exact qp9 i l day hinv Q hq.2
def Of:Ct:=⟨[.d (.sl ah),.d i64],[.bool],λx=>(Hk x.1 x.2.1,()),λ_=>[]⟩
def qep:af prog 300 Of:=
 conv (cS aH qrz (ps:=[.d (.sl ah),.d i64]) (fr:=λx=>Jd (w9 0 x.1) (Jb (tJ x.1 x.2.1 (8-(0:Int)).toNat 0) (Jv (true,())) (Jv (false,()))))) _ _ (λw F x vs hr _=>by
  obtain⟨l,day,_⟩:=x;obtain⟨v,vs',rfl,hv,_⟩:=hr;have hlen:((List.length l:Nat):Int)<=9223372036854775807:=mv hv;refine aF ⟨by omega,by omega,hlen⟩ ?_;cases hc:Hk l day
  ·exact aR hc ⟨uT,rfl⟩
  ·exact aZ hc ⟨uT,rfl⟩)
def yw (x t:ah.den) (all:List ah.den):Bool:=bif (fM.f (t.2.2.1,x.2.2.1.1,())).1 then Hk all x.2.2.1.1 else false
def G1:Ct:=⟨[.d ah,.ptr ah,.ptr (.sl ah)],[.bool],λx=>(yw x.1 x.2.1 x.2.2.1,()),λ_=>[]⟩
noncomputable def XO:Cx:=cx [(300,Of),(144,fM)] []
def XP:CxOK prog XO:=aP aG ⟨qep,oT,uT⟩ trivial
def qvs:af prog 299 G1:=
 conv (aS XP f299 (fr:=λx=>Jv (yw x.1 x.2.1 x.2.2.1,())) (ps:=G1.ps)) _ _ (λ_ _ _ _ _ _=>⟨uT,rfl⟩)
def Dy (t x:ah.den):ah.den:=(x.1,x.2.1,x.2.2.1,x.2.2.2.1,x.2.2.2.2.1,x.2.2.2.2.2.1,x.2.2.2.2.2.2.1,I6.wrap ((BitVec.ofInt I6.bits x.2.2.2.2.2.2.2.1 &&& BitVec.ofInt I6.bits t.2.2.2.2.2.2.2.1).toNat:Int),())
def Fs (l:List ah.den) (t:ah.den):List ah.den:=[t]++l.map (Dy t)
def pi (l:List ah.den) (t:ah.den):Bool:=bif t.2.1 != 1 then false else (Fs l t).any λx=>yw x t (Fs l t)
def TH (t:ah.den):(l a:List ah.den)->kJ wb l ((),t,(a,()),())=((),t,(a++l.map (Dy t),()),())
 |[],a=>by rw[List.map_nil,udn]; rfl
 |x::l,a=>by
  have h:=TH t l (a++[Dy t x]);rw[ucp] at h;exact h
def TI (t:ah.den):(l a:List ah.den)->a.length+l.length<=1000000->pg wb l ((),t,(a,()),())
 |[],_,_=>trivial
 |x::l,a,h=>by
  rw[uc6] at h;refine⟨⟨⟨?_,?_⟩,uT⟩,TI t l (a++[Dy t x]) (by rw[ub4,ua6]; omega)⟩
  ·show a.length+1<=maxLen;unfold maxLen; omega
  ·show(a.length+1)*72<=140737488355328;omega
abbrev PB (l:List ah.den) (t:ah.den):v9.M.X:=((0,((List.length l:Nat):Int),l,()),t,([t],()),())
abbrev qZ (l:List ah.den) (t:ah.den):zh:=kJ wb (List.drop 0 l) ((),t,([t],()),())
noncomputable def XQ:Cx:=cx [(104,fA ah),(299,G1)] []
def XR:CxOK prog XQ:=aP aG ⟨Fu,qvs,uT⟩ trivial
abbrev Nz:List PT:=[.d (.sl ah),.d ah]
def Ow:Ct:=⟨Nz,[.bool],λx=>(pi x.1 x.2.1,()),λx=>[x.1.length<=100000]⟩
def qvu:af prog 297 Ow:=
 conv (cS XR qss (ps:=Nz) (rs:=[.bool]) (fr:=λx=>Jb (x.2.1.2.1 != 1) (Jv (false,())) (Jd (InL (Re (PB x.1 x.2.1)) (Wo (PB x.1 x.2.1))) (Jd (pg wb (List.drop 0 x.1) ((),x.2.1,([x.2.1],()),())) (Jd (∀ y:aa [ah],fi [ah] y->av ([]:List Prop)) (Jv ((qZ x.1 x.2.1).2.2.1.1.any (λn=>yw n (qZ x.1 x.2.1).2.1 (qZ x.1 x.2.1).2.2.1.1),()))))))) _ _ (λw F x vs hr h=>by
  obtain⟨l,t,_⟩:=x;have hl:List.length (α:=ah.den) l<=100000:=h;show _/\_=(pi l t,());unfold pi;cases hc:t.2.1 != 1
  ·refine aR hc (aF ⟨rfl,ue5 _,ub2 _,?_⟩ (aF (TI t (List.drop 0 l) [t] (by rw[ueb,ua6]; omega)) (aF (λ_ _=>uT) ⟨uT,?_⟩)))
   ·show((List.length (α:=ah.den) l:Nat):Int)<=_;omega
   ·show((qZ l t).2.2.1.1.any (λn=>yw n (qZ l t).2.1 (qZ l t).2.2.1.1),())=_;have e:qZ l t=((),t,(Fs l t,()),()):=by
     show kJ wb (List.drop 0 l) _=_;rw[ueb,TH]; rfl
    rw[e];rfl
  ·exact aZ hc ⟨uT,rfl⟩)
def z9 (s:aq.den) (t:ah.den):Bool:=(jW s).any λx=>x.1==t.1
def W6 (s:aq.den) (l:List ah.den):aq.den:=(s.1,s.2.1,s.2.2.1,l,s.2.2.2.2.1,())
def kC (s:aq.den) (f:factT.den):aq.den×Int:=
 bif z9 s (fD f) then (s,8) else bif decide (((List.length (jW s):Nat):Int)>=100) then (s,2) else bif pi (jW s) (fD f) then (s,13)
  else (W6 s (iT (λt=>t.1) (jW s) (fD f)),0)
abbrev gS:List PT:=[.d factT,.d aq]
def AE:Ct:=⟨[.d ah],[i64],λx=>(x.1.1,()),λ_=>[]⟩
def G7:Ct:=⟨[.d ah,.pk 295,.ptr factT],[.bool],λx=>(x.1.1==(fD x.2.2.1).1,()),λ_=>[]⟩
def We:af prog 295 AE:=
 conv (aS aH f295 (fr:=λx=>Jv (x.1.1,())) (ps:=AE.ps) (rs:=[i64])) _ _ (λ_ _ _ _ _ _=>⟨uT,rfl⟩)
noncomputable def XS:Cx:=cx [(295,AE)] []
def XT:CxOK prog XS:=aP aG ⟨We,uT⟩ trivial
def zb7:af prog 296 G7:=
 conv (aS XT f296 (fr:=λx=>Jv (x.1.1==(fD x.2.2.1).1,())) (ps:=G7.ps) (rs:=[.bool])) _ _ (λ_ _ _ _ _ _=>⟨uT,rfl⟩)
noncomputable def XU:Cx:=cx [(104,fA ah),(295,AE),(296,G7),(297,Ow),(298,tx ah)] []
def XV:CxOK prog XU:=aP aG ⟨Fu,We,zb7,qvu,qwo,uT⟩ trivial
def Om:Ct:=⟨gS,[aq,i64],λx=>((kC x.2.1 x.1).1,(kC x.2.1 x.1).2,()),λ_=>[]⟩
def qk5 (x:ag gS):Fr (aa [aq,i64]):=
 let c:=([]:List Prop);let b:=fD x.1;let a:=jW x.2.1;Jd (∀ y:aa [ah],fi [ah] y->av c) (Jb (z9 x.2.1 b) (Jv (x.2.1,8,())) (Jb (decide (((List.length a:Nat):Int)>=100)) (Jv (x.2.1,2,()))
  (Jd (a.length<=100000) (Jb (pi a b) (Jv (x.2.1,13,()))
   (Jd (∀ y:aa [ah],fi [ah] y->av c) (Jd (a.length<=100000) (Jv (W6 x.2.1 (iT (λt=>t.1) a b),0,()))))))))
def qfy:af prog 294 Om:=
 conv (aS XV f294 (fr:=qk5) (ps:=gS) (rs:=[aq,i64])) _ _ (λ_ _ x _ _ _=>by
  obtain⟨f,s,_⟩:=x;show _/\_=((kC s f).1,(kC s f).2,());unfold kC;refine aF (λ_ _=>uT) ?_;cases h1:z9 s (fD f)
  ·refine aR rfl ?_;cases h2:decide (((List.length (jW s):Nat):Int)>=100)
   ·have hl:(jW s).length<=100000:=by have:=ucf h2; omega
    refine aR rfl (aF hl ?_);cases h3:pi (jW s) (fD f)
    ·exact aR rfl (aF (λ_ _=>uT) (aF hl ⟨uT,rfl⟩))
    ·exact aZ rfl ⟨uT,rfl⟩
   ·exact aZ rfl ⟨uT,rfl⟩
  ·exact aZ rfl ⟨uT,rfl⟩)
def ky (s:aq.den) (f:factT.den):aq.den×Int:=bif decide (hN f<=mg s) then (s,12) else ((s.1,s.2.1,s.2.2.1,s.2.2.2.1,hN f,()),0)
def Oj:Ct:=⟨gS,[aq,i64],λx=>((ky x.2.1 x.1).1,(ky x.2.1 x.1).2,()),λ_=>[]⟩
def qft:af prog 309 Oj:=
 conv (aS aH f309 (fr:=λx=>Jb (decide (hN x.1<=mg x.2.1)) (Jv (x.2.1,12,())) (Jv ((x.2.1.1,x.2.1.2.1,x.2.1.2.2.1,x.2.1.2.2.2.1,hN x.1,()),0,()))) (ps:=gS) (rs:=[aq,i64])) _ _ (λ_ _ x _ _ _=>by
  obtain⟨f,s,_⟩:=x;show _/\_=((ky s f).1,(ky s f).2,());unfold ky;cases h1:decide (hN f<=mg s)
  ·exact aR h1 ⟨uT,rfl⟩
  ·exact aZ h1 ⟨uT,rfl⟩)
noncomputable def qeq:List (FuncId×Ct):=[(115,FV),(281,Gq),(71,wN),(264,Od),(42,A5),(277,Ox),(72,Ax),(218,A9),(219,qu),(265,(tx zjz)),(282,(tx ar)),(278,(AG zjz)),(293,(AG ar)),(200,(fA ar)),(266,FZ),(283,Gv),(276,FW)]
noncomputable def Yb:Cx:=cx qeq []
def wx:CxOK prog Yb:=aP aG ⟨N8,Qq,NA,qbn,Pz,qwu,OR,T8,OT,qwm,qwn,zc8,zda,NE,qbi,qth,qaj,uT⟩ trivial
abbrev nH (s:aq.den) (l:List zjz.den):aq.den:=(s.1,l,s.2.2.1,s.2.2.2.1,s.2.2.2.2.1,())
abbrev Ez (s:aq.den) (l:List ar.den):aq.den:=(s.1,s.2.1,l,s.2.2.2.1,s.2.2.2.2.1,())
def bD (s:aq.den):Prop:=bJ s.1/\(db s).length<=100000/\(bq s).length<=100000/\∀ a∈db s,bL a.1
abbrev j5 (s:aq.den) (i:Int):zjz.den:=(db s).getD i.toNat zjz.dflt
abbrev qkp (s:aq.den) (i:Int):ar.den:=(bq s).getD i.toNat ar.dflt
abbrev bH (f:factT.den):aC.den×Int:=og (mU f) (cC f) (mV f)
abbrev aI (s:aq.den) (f:factT.den):Int:=gz s (mU f)
abbrev gI (s:aq.den) (f:factT.den):Int:=jH s (mU f)
abbrev pH (s:aq.den) (f:factT.den):aC.den×Int:=py (j5 s (aI s f)).1 (lF f)
def kx (s:aq.den) (f:factT.den):aq.den×Int:=
 bif decide (aI s f>=0) then (s,8) else bif decide (((List.length (db s):Nat):Int)>=2000) then (s,2)
  else (nH s (iT nW (db s) ((bH f).1,0,())),bif (bH f).2==0 then (mN (bH f).1 s.1).2 else (bH f).2)
def kw (s:aq.den) (f:factT.den):aq.den×Int:=
 bif decide (aI s f<0) then (s,7) else bif (bq s).any (qq f) then (s,10)
  else (nH s ((db s).set (aI s f).toNat ((pH s f).1,(j5 s (aI s f)).2.1,())),bif (pH s f).2==0 then (mN (pH s f).1 s.1).2 else (pH s f).2)
def kB (s:aq.den) (f:factT.den):aq.den×Int:=
 bif decide (aI s f<0) then (s,7) else bif decide (hH f>I6.wrap (4000000000000000000-(j5 s (aI s f)).2.1)) then (s,5)
  else (nH s ((db s).set (aI s f).toNat ((j5 s (aI s f)).1,I6.wrap ((j5 s (aI s f)).2.1+hH f),())),0)
abbrev lA (s:aq.den) (f:factT.den):zjz.den×Bool:=kj s (fB f).2.1
def kz (s:aq.den) (f:factT.den):aq.den×Int:=
 bif decide (jH s (fB f).1>=0) then (s,8) else bif decide (((List.length (bq s):Nat):Int)>=2000) then (s,2) else bif !(lA s f).2 then (s,7)
  else (Ez s (iT oR (bq s) (fB f,[],())),(qF (lA s f).1.1 s.1 (fB f)).2)
abbrev pG (s:aq.den) (f:factT.den):ar.den×Int:=o8 (qkp s (gI s f)) (mT f)
def kv (s:aq.den) (f:factT.den):aq.den×Int:=
 bif decide (gI s f<0) then (s,7) else (Ez s ((bq s).set (gI s f).toNat (pG s f).1),(pG s f).2)
def fo {l:List α} {i:Int} {d:α} (h:0<=i/\i<(l.length:Int)):l.getD i.toNat d∈l:=by
 have hi:i.toNat<l.length:=by omega
 rw[uah,uap hi];exact udf hi
def tc {s:aq.den} {id:Int} (h:¬ gz s id<0):0<=gz s id/\gz s id<((db s).length:Int):=⟨by omega,(xZ (by unfold gz at h; omega)).1⟩
def If {s:aq.den} {id:Int} (h:¬ jH s id<0):0<=jH s id/\jH s id<((bq s).length:Int):=⟨by omega,(xZ (by unfold jH at h; omega)).1⟩
def xu {s:aq.den} (hs:bD s) {id:Int} (h:¬ gz s id<0):bL (j5 s (gz s id)).1:=hs.2.2.2 _ (fo (tc h))
def qho:bL fF:=⟨by decide,by decide,λc hc=>by cases hc⟩
def N9 {s:aq.den} (hs:bD s) (id:Int):bL (kj s id).1.1:=by
 unfold kj;split
 ·rename_i h;exact xu hs (by omega)
 ·exact qho
abbrev nA:Prop:=∀ y:aa [zjz],fi [zjz] y->av ([]:List Prop)
abbrev nF:Prop:=∀ y:aa [ar],fi [ar] y->av ([]:List Prop)
def Oi:Ct:=⟨gS,[aq,i64],λx=>((kx x.2.1 x.1).1,(kx x.2.1 x.1).2,()),λx=>[bD x.2.1]⟩
def Iv (s:aq.den) (f:factT.den):Fr (aa [aq,i64]):=
 let a:=iT nW (db s) ((bH f).1,0,());Jb (decide (aI s f>=0)) (Jv (s,8,())) (Jb (decide (((List.length (db s):Nat):Int)>=2000)) (Jv (s,2,())) (Jb ((bH f).2==0)
  (Jd (bL (bH f).1) (Jd (bJ s.1) (Jd nA (Jd ((db s).length<=100000) (Jv (nH s a,(mN (bH f).1 s.1).2,()))))))
  (Jd nA (Jd ((db s).length<=100000) (Jv (nH s a,(bH f).2,()))))))
def qfr (s:aq.den) (f:factT.den) (hs:bD s):(Iv s f).ok/\(Iv s f).get=((kx s f).1,(kx s f).2,()):=by
 unfold kx;cases h1:decide (aI s f>=0)
 ·refine aR h1 ?_;cases h2:decide (((List.length (db s):Nat):Int)>=2000)
  ·refine aR rfl ?_;cases h3:(bH f).2==0
   ·refine aR rfl ?_;exact aF (λ_ _=>uT) (aF hs.2.1 ⟨uT,rfl⟩)
   ·refine aZ rfl ?_;exact aF (NV _ _ _) (aF hs.1 (aF (λ_ _=>uT) (aF hs.2.1 ⟨uT,rfl⟩)))
  ·exact aZ rfl ⟨uT,rfl⟩
 ·exact aZ h1 ⟨uT,rfl⟩
def qfs:af prog 263 Oi:=
 conv (aS wx f263 (fr:=λx=>Iv x.2.1 x.1) (ps:=gS)) _ _ (λ_ _ x _ _ h=>qfr x.2.1 x.1 h)
def Oh:Ct:=⟨gS,[aq,i64],λx=>((kw x.2.1 x.1).1,(kw x.2.1 x.1).2,()),λx=>[bD x.2.1]⟩
def Iu (s:aq.den) (f:factT.den):Fr (aa [aq,i64]):=
 let b:=((db s).length:Int);let a:=(db s).set (aI s f).toNat ((pH s f).1,(j5 s (aI s f)).2.1,());Jb (decide (aI s f<0)) (Jv (s,7,())) (Jd nF (Jb ((bq s).any (qq f)) (Jv (s,10,())) (Jd (0<=aI s f/\aI s f<b) (Jd (bL (j5 s (aI s f)).1)
  (Jb ((pH s f).2==0)
   (Jd (bL (pH s f).1) (Jd (bJ s.1) (Jd ((db s).length<=100000) (Jd (0<=aI s f/\aI s f<b) (Jv (nH s a,(mN (pH s f).1 s.1).2,()))))))
   (Jd ((db s).length<=100000) (Jd (0<=aI s f/\aI s f<b) (Jv (nH s a,(pH s f).2,())))))))))
def qfp (s:aq.den) (f:factT.den) (hs:bD s):(Iu s f).ok/\(Iu s f).get=((kw s f).1,(kw s f).2,()):=by
 unfold kw;cases h1:decide (aI s f<0)
 ·refine aR h1 ?_;have hi:=ucf h1;refine aF (λ_ _=>uT) ?_;cases h2:(bq s).any (qq f)
  ·refine aR rfl ?_;refine aF (tc hi) (aF (xu hs hi) ?_);cases h3:(pH s f).2==0
   ·refine aR rfl ?_;exact aF hs.2.1 (aF (tc hi) ⟨uT,rfl⟩)
   ·refine aZ rfl ?_;exact aF (Uq (xu hs hi)) (aF hs.1 (aF hs.2.1 (aF (tc hi) ⟨uT,rfl⟩)))
  ·exact aZ rfl ⟨uT,rfl⟩
 ·exact aZ h1 ⟨uT,rfl⟩
def qfq:af prog 275 Oh:=
 conv (aS wx f275 (fr:=λx=>Iu x.2.1 x.1) (ps:=gS)) _ _ (λ_ _ x _ _ h=>qfp x.2.1 x.1 h)
def Ol:Ct:=⟨gS,[aq,i64],λx=>((kB x.2.1 x.1).1,(kB x.2.1 x.1).2,()),λx=>[bD x.2.1]⟩
def Ix (s:aq.den) (f:factT.den):Fr (aa [aq,i64]):=
 let b:=((db s).length:Int);let a:=j5 s (aI s f);Jb (decide (aI s f<0)) (Jv (s,7,())) (Jd (0<=aI s f/\aI s f<b) (Jb (decide (hH f>I6.wrap (4000000000000000000-a.2.1))) (Jv (s,5,()))
  (Jd ((db s).length<=100000) (Jd (0<=aI s f/\aI s f<b) (Jv (nH s ((db s).set (aI s f).toNat (a.1,I6.wrap (a.2.1+hH f),())),0,()))))))
def qfw (s:aq.den) (f:factT.den) (hs:bD s):(Ix s f).ok/\(Ix s f).get=((kB s f).1,(kB s f).2,()):=by
 unfold kB;cases h1:decide (aI s f<0)
 ·refine aR h1 ?_;have hi:=ucf h1;refine aF (tc hi) ?_;cases h2:decide (hH f>I6.wrap (4000000000000000000-(j5 s (aI s f)).2.1))
  ·refine aR rfl ?_;exact aF hs.2.1 (aF (tc hi) ⟨uT,rfl⟩)
  ·exact aZ rfl ⟨uT,rfl⟩
 ·exact aZ h1 ⟨uT,rfl⟩
def qfx:af prog 279 Ol:=
 conv (aS wx f279 (fr:=λx=>Ix x.2.1 x.1) (ps:=gS)) _ _ (λ_ _ x _ _ h=>qfw x.2.1 x.1 h)
def Ok:Ct:=⟨gS,[aq,i64],λx=>((kz x.2.1 x.1).1,(kz x.2.1 x.1).2,()),λx=>[bD x.2.1]⟩
def Iw (s:aq.den) (f:factT.den):Fr (aa [aq,i64]):=
 Jb (decide (jH s (fB f).1>=0)) (Jv (s,8,())) (Jb (decide (((List.length (bq s):Nat):Int)>=2000)) (Jv (s,2,())) (Jb (!(lA s f).2) (Jv (s,7,()))
  (Jd (bL (lA s f).1.1) (Jd (bJ s.1) (Jd nF (Jd ((bq s).length<=100000) (Jv (Ez s (iT oR (bq s) (fB f,[],())),(qF (lA s f).1.1 s.1 (fB f)).2,()))))))))
def qfu (s:aq.den) (f:factT.den) (hs:bD s):(Iw s f).ok/\(Iw s f).get=((kz s f).1,(kz s f).2,()):=by
 unfold kz;cases h1:decide (jH s (fB f).1>=0)
 ·refine aR h1 ?_;cases h2:decide (((List.length (bq s):Nat):Int)>=2000)
  ·refine aR rfl ?_;cases h3 : !(lA s f).2
   ·refine aR rfl ?_;exact aF (N9 hs _) (aF hs.1 (aF (λ_ _=>uT) (aF hs.2.2.1 ⟨uT,rfl⟩)))
   ·exact aZ rfl ⟨uT,rfl⟩
  ·exact aZ rfl ⟨uT,rfl⟩
 ·exact aZ h1 ⟨uT,rfl⟩
def qfv:af prog 280 Ok:=
 conv (aS wx f280 (fr:=λx=>Iw x.2.1 x.1) (ps:=gS)) _ _ (λ_ _ x _ _ h=>qfu x.2.1 x.1 h)
def Og:Ct:=⟨gS,[aq,i64],λx=>((kv x.2.1 x.1).1,(kv x.2.1 x.1).2,()),λx=>[bD x.2.1]⟩
def It (s:aq.den) (f:factT.den):Fr (aa [aq,i64]):=
 let a:=((bq s).length:Int);Jb (decide (gI s f<0)) (Jv (s,7,())) (Jd (0<=gI s f/\gI s f<a) (Jd ((bq s).length<=100000) (Jd (0<=gI s f/\gI s f<a) (Jv (Ez s ((bq s).set (gI s f).toNat (pG s f).1),(pG s f).2,())))))
def qfn (s:aq.den) (f:factT.den) (hs:bD s):(It s f).ok/\(It s f).get=((kv s f).1,(kv s f).2,()):=by
 unfold kv;cases h1:decide (gI s f<0)
 ·refine aR h1 ?_;have hi:=ucf h1;exact aF (If hi) (aF hs.2.2.1 (aF (If hi) ⟨uT,rfl⟩))
 ·exact aZ h1 ⟨uT,rfl⟩
def qfo:af prog 292 Og:=
 conv (aS wx f292 (fr:=λx=>It x.2.1 x.1) (ps:=gS)) _ _ (λ_ _ x _ _ h=>qfn x.2.1 x.1 h)
abbrev i6:List PT:=[.d .unit,.d factT]
def Kq (f:factT.den):factT.den:=(cC f,aU f,0,hH f,hN f,((0,0,()),(0,0,0,0,()),[],()),lF f,fB f,mT f,fD f,())
def tz:Ct:=⟨i6,[factT],λx=>(Kq x.2.1,()),λ_=>[]⟩
def qxl:af prog 256 tz:=
 conv (aS aH f256 (fr:=λx=>Jv (Kq x.2.1,())) (ps:=i6) (rs:=[factT])) _ _ (λ_ _ _ _ _ _=>⟨uT,rfl⟩)
def Kr (f:factT.den):factT.den:=(cC f,aU f,0,hH f,hN f,mV f,(0,0,0,(0,0,0,0,()),[],0,()),fB f,mT f,fD f,())
def t3:Ct:=⟨i6,[factT],λx=>(Kr x.2.1,()),λ_=>[]⟩
def qxm:af prog 257 t3:=
 conv (aS aH f257 (fr:=λx=>Jv (Kr x.2.1,())) (ps:=i6) (rs:=[factT])) _ _ (λ_ _ _ _ _ _=>⟨uT,rfl⟩)
def Ks (f:factT.den):factT.den:=(cC f,aU f,0,0,hN f,mV f,lF f,fB f,mT f,fD f,())
def t4:Ct:=⟨i6,[factT],λx=>(Ks x.2.1,()),λ_=>[]⟩
def qxn:af prog 258 t4:=
 conv (aS aH f258 (fr:=λx=>Jv (Ks x.2.1,())) (ps:=i6) (rs:=[factT])) _ _ (λ_ _ _ _ _ _=>⟨uT,rfl⟩)
def Kt (f:factT.den):factT.den:=(cC f,aU f,mU f,hH f,hN f,mV f,lF f,(0,0,0,0,0,0,()),mT f,fD f,())
def t5:Ct:=⟨i6,[factT],λx=>(Kt x.2.1,()),λ_=>[]⟩
def qxo:af prog 259 t5:=
 conv (aS aH f259 (fr:=λx=>Jv (Kt x.2.1,())) (ps:=i6) (rs:=[factT])) _ _ (λ_ _ _ _ _ _=>⟨uT,rfl⟩)
def Ku (f:factT.den):factT.den:=(cC f,aU f,0,hH f,hN f,mV f,lF f,fB f,(0,0,0,()),fD f,())
def t6:Ct:=⟨i6,[factT],λx=>(Ku x.2.1,()),λ_=>[]⟩
def qxp:af prog 260 t6:=
 conv (aS aH f260 (fr:=λx=>Jv (Ku x.2.1,())) (ps:=i6) (rs:=[factT])) _ _ (λ_ _ _ _ _ _=>⟨uT,rfl⟩)
def Kv (f:factT.den):factT.den:=(cC f,aU f,mU f,hH f,hN f,mV f,lF f,fB f,mT f,(0,0,(0,0,()),0,0,0,0,0,()),())
def t7:Ct:=⟨i6,[factT],λx=>(Kv x.2.1,()),λ_=>[]⟩
def qxq:af prog 261 t7:=
 conv (aS aH f261 (fr:=λx=>Jv (Kv x.2.1,())) (ps:=i6) (rs:=[factT])) _ _ (λ_ _ _ _ _ _=>⟨uT,rfl⟩)
def Kw (f:factT.den):factT.den:=(cC f,aU f,mU f,hH f,0,mV f,lF f,fB f,mT f,fD f,())
def t8:Ct:=⟨i6,[factT],λx=>(Kw x.2.1,()),λ_=>[]⟩
def qxr:af prog 262 t8:=
 conv (aS aH f262 (fr:=λx=>Jv (Kw x.2.1,())) (ps:=i6) (rs:=[factT])) _ _ (λ_ _ _ _ _ _=>⟨uT,rfl⟩)
noncomputable def qer:List (FuncId×Ct):=[(49,Gz),(50,Av),(51,q9),(52,ou),(53,wO),(54,tk),(55,iD),(256,tz),(257,t3),(258,t4),(259,t5),(260,t6),(261,t7),(262,t8)]
noncomputable def Yc:Cx:=cx qer []
def Yd:CxOK prog Yc:=aP aG ⟨qky,qbh,Lm,GW,Ot,Oy,vF,qxl,qxm,qxn,qxo,qxp,qxq,qxr,uT⟩ trivial
def xw (x:ag [.d factT]):Fr (aa [.bool]):=
 let c:=x.1.2.2;let h:=c.2.2.2.2;let b:=((),x.1,());let a:=Gz.f (x.1.2.1,());let g:=bif bif (cD gp a.1.1).isNone then true else decide (x.1.1<1) then true else decide (x.1.1>292194);Jd (g=false->a.1.1=1->av ([]++([]++[])++tz.ok b)) (Jd (g=false->a.1.1≠1->av [a.1.1=2->av ([]++([]++[])++t3.ok b),a.1.1≠2->av [a.1.1=3->av ([]++([]++[])++t4.ok b),a.1.1≠3->av [a.1.1=4->av ([]++([]++[])++t5.ok b),a.1.1≠4->av [a.1.1=5->av ([]++([]++[])++t6.ok b),a.1.1≠5->av [a.1.1=6->av ([]++([]++[])++t7.ok b),a.1.1≠6->av ((a.1.1=7)::([]++([]++[])++t8.ok b))]]]]]) (Jb (bif bif bif (cD gp a.1.1).isNone then true else decide (x.1.1<1) then true else decide (x.1.1>292194) then true else !(Av.f ((bif a.1.1==1 then tz.f b else bif a.1.1==2 then t3.f b else bif a.1.1==3 then t4.f b else bif a.1.1==4 then t5.f b else bif a.1.1==5 then t6.f b else bif a.1.1==6 then t7.f b else t8.f b).1,())).1) (Jv (false,())) (Jb (cD gp a.1.1==some 153) (Jv (bif bif decide (c.1>=1) then decide (c.1<=1000000000) else false then (q9.f (c.2.2.2.1,())).1 else false,())) (Jb (cD gp a.1.1==some 155) (Jv (bif bif bif decide (c.1>=1) then decide (c.1<=1000000000) else false then (ou.f (h.1,())).1 else false then h.1.1==x.1.1 else false,())) (Jb (cD gp a.1.1==some 157) (Jv (bif bif bif decide (c.1>=1) then decide (c.1<=1000000000) else false then decide (c.2.1>=1) else false then decide (c.2.1<=1000000000000000) else false,())) (Jb (cD gp a.1.1==some 158) (Jv (bif (wO.f (h.2.1,())).1 then h.2.1.2.2.2.2.1==x.1.1 else false,())) (Jb (cD gp a.1.1==some 160) (Jv (bif bif bif decide (c.1>=1) then decide (c.1<=1000000000) else false then (tk.f (h.2.2.1,())).1 else false then h.2.2.1.1==x.1.1 else false,())) (Jb (cD gp a.1.1==some 162) (Jv ((iD.f (h.2.2.2.1,())).1,())) (Jv (bif decide (c.2.2.1>=1) then decide (c.2.2.1<=x.1.1) else false,()))))))))))
def qi0:af prog 29 (bg [.d factT] [.bool] xw):=
 aS Yd f29
def yO (f:factT.den):factT.den:=
 bif aU f==1 then Kq f else bif aU f==2 then Kr f else bif aU f==3 then Ks f else bif aU f==4 then Kt f else bif aU f==5 then Ku f else bif aU f==6 then Kv f else Kw f
def Ck (f:factT.den):Bool:=decide (mU f>=1)&&decide (mU f<=1000000000)
def NY (f:factT.den):Bool:=
 bif aU f==1 then Ck f&&ju (mV f) else bif aU f==2 then (Ck f&&gl (lF f))&&(lF f).1==cC f
  else bif aU f==3 then (Ck f&&decide (hH f>=1))&&decide (hH f<=1000000000000000) else bif aU f==4 then Oq (fB f)&&(fB f).2.2.2.2.1==cC f
  else bif aU f==5 then (Ck f&&qz (mT f))&&(mT f).1==cC f else bif aU f==6 then Dv (fD f) else decide (hN f>=1)&&decide (hN f<=cC f)
def gF (f:factT.den):Bool:=
 (decide (1<=aU f)&&decide (aU f<=7))&&((decide (1<=cC f)&&decide (cC f<=292194))&&(Ak (yO f)&&NY f))
def gU (a b:Bool):(bif a then b else false)=(a&&b):=by cases a<;>rfl
def NS (a b:Bool):(bif a then true else b)=(a || b):=by cases a<;>rfl
def Tg {k:Int} (h:1<=k/\k<=7) (h1:k≠1) (h2:k≠2) (h3:k≠3) (h4:k≠4) (h5:k≠5) (h6:k≠6):k=7:=by omega
def ql3 {f:factT.den} (h:aU f<1\/aU f>7):(xw (f,())).ok/\(xw (f,())).get=(gF f,()):=by
 have hn:=IM h;have hf:gF f=false:=by
  unfold gF;rcases h with h|h
  ·rw[show decide (1<=aU f)=false from udr (by omega)]; rfl
  ·rw[show decide (aU f<=7)=false from udr (by omega),ud9]; rfl
 rw[hf];have hb:(bif bif (cD gp (aU f)).isNone then true else decide (cC f<1) then true else decide (cC f>292194))=true:=by rw[hn]; rfl
 refine aF (λh0=>absurd (hb.symm.trans h0) (by decide)) (aF (λh0=>absurd (hb.symm.trans h0) (by decide)) (aZ ?_ ⟨uT,rfl⟩));show(bif (bif bif (cD gp (aU f)).isNone then true else decide (cC f<1) then true else decide (cC f>292194)) then true else _)=true;rw[hb];rfl
def ql5 {f:factT.den} (h:1<=aU f/\aU f<=7):(xw (f,())).ok/\(xw (f,())).get=(gF f,()):=by
 have hc:(bif bif (cD gp (aU f)).isNone then true else decide (cC f<1) then true else decide (cC f>292194))=(decide (cC f<1) || decide (cC f>292194)):=by
  rcases yX h with e|e|e|e|e|e|e<;>rw[e]<;>exact NS _ _
 refine aF (λ_ _=>uT) (aF (λ_=>?_) ?_)
 ·show aU f≠1->(_/\_);intro h1;exact⟨λ_=>uT,λh2=>⟨λ_=>uT,λh3=>⟨λ_=>uT,λh4=>⟨λ_=>uT,λh5=>⟨λ_=>uT,λh6=>Tg h h1 h2 h3 h4 h5 h6⟩⟩⟩⟩⟩
 have hr:(bif aU f==1 then tz.f ((),f,()) else bif aU f==2 then t3.f ((),f,()) else bif aU f==3 then t4.f ((),f,()) else bif aU f==4 then t5.f ((),f,()) else bif aU f==5 then t6.f ((),f,()) else bif aU f==6 then t7.f ((),f,()) else t8.f ((),f,()))=(yO f,()):=by
  unfold yO;rcases yX h with e|e|e|e|e|e|e<;>rw[e]<;>rfl
 have hk:(decide (1<=aU f)&&decide (aU f<=7))=true:=by rw[ud6 h.1,ud6 h.2]; rfl
 have hcond:(bif bif bif (cD gp (aU f)).isNone then true else decide (cC f<1) then true else decide (cC f>292194) then true else !(Av.f ((bif aU f==1 then tz.f ((),f,()) else bif aU f==2 then t3.f ((),f,()) else bif aU f==3 then t4.f ((),f,()) else bif aU f==4 then t5.f ((),f,()) else bif aU f==5 then t6.f ((),f,()) else bif aU f==6 then t7.f ((),f,()) else t8.f ((),f,())).1,())).1)
   = !((decide (1<=cC f)&&decide (cC f<=292194))&&Ak (yO f)):=by
  rw[hr,hc,NS];rw[Bool.not_and,Bool.not_and,<- decide_not,<- decide_not];congr 2
  ·exact ude.mpr (by omega)
  ·exact ude.mpr (by omega)
 cases hb:(decide (1<=cC f)&&decide (cC f<=292194))&&Ak (yO f)
 ·have hF:gF f=false:=by unfold gF; rw[<- ud8 (decide (1<=cC f)&&_),hb,Bool.false_and,ud9]
  rw[hF];exact aZ (hcond.trans (by rw[hb]; rfl)) ⟨uT,rfl⟩
 ·have hF:gF f=NY f:=by unfold gF; rw[<- ud8 (decide (1<=cC f)&&_),hb,hk,ueh,ueh]
  rw[hF];refine aR (hcond.trans (by rw[hb]; rfl)) ?_;obtain⟨bk,k,id,amt,day,tm,ch,cl,ac,tr,_⟩:=f;have e':=yX h;rcases e' with e|e|e|e|e|e|e
  all_goals
   have e1:=e;subst e1
  ·exact aZ rfl ⟨uT,by rw[gU,gU]; rfl⟩
  ·exact aR rfl (aZ rfl ⟨uT,by rw[gU,gU,gU]; rfl⟩)
  ·exact aR rfl (aR rfl (aZ rfl ⟨uT,by rw[gU,gU,gU]; rfl⟩))
  ·exact aR rfl (aR rfl (aR rfl (aZ rfl ⟨uT,by rw[gU]; rfl⟩)))
  ·exact aR rfl (aR rfl (aR rfl (aR rfl (aZ rfl ⟨uT,by rw[gU,gU,gU]; rfl⟩))))
  ·exact aR rfl (aR rfl (aR rfl (aR rfl (aR rfl (aZ rfl ⟨uT,rfl⟩)))))
  ·exact aR rfl (aR rfl (aR rfl (aR rfl (aR rfl (aR rfl ⟨uT,by rw[gU]; rfl⟩)))))
def On:Ct:=⟨[.d factT],[.bool],λx=>(gF x.1,()),λ_=>[]⟩
def ql4:af prog 29 On:=conv qi0 _ _ (λ_ _ x _ _ _=>by
 by_cases h:1<=aU x.1/\aU x.1<=7
 ·exact ql5 h
 ·exact ql3 (by omega))
section
open Go.Shelf Go.Lib
def PE:List (Int×TypeId):=[(1,213),(2,214),(3,215),(4,216),(5,217),(6,218),(7,219)]
def Jo (k:Int) (v:Value):Value:=match cD PE k with
 |some ty=>.iface ty v
 |none=>.nilIface
def Sc (v:Value):Array Value:=#[.nilIface,.iface 213 v,.iface 214 v,.iface 215 v,.iface 216 v,.iface 217 v,.iface 218 v,.iface 219 v]
def qox (k:Int) (hk:1<=k/\k<=7) (v:Value) (w:World):(Instr.index 220 (.agg (Sc v)) (.int .i64 k)).run prog w = .ok (Jo k v) w:=by
 rcases yX hk with rfl|rfl|rfl|rfl|rfl|rfl|rfl<;>kernel_rfl
def qo6 (k:Int) (hk:1<=k/\k<=7) (cs:Array Value) (hs:cs.size=39) (h1:cs[1]? = some (.int .i64 k)) (R:Ending->World->Prop) (w:World) (hR:∀ o,R (.returned (Jo k (.agg cs))) (w.alloc o)):Calls prog 58 #[.agg cs] w R:=by
 have hh:(w.alloc (.cells cs 44)).heap[w.heap.size]? = some (.cells cs 44 (0,0)):=World.alloc_heap_new w _;have hr:(w.alloc (.cells cs 44)).rangeAt w.heap.size 0 cs.toList:=λj v hv=>by
  rw[qD hh]; simpa using hv
 have hc:(w.alloc (.cells cs 44)).cell? ⟨w.heap.size,1,none⟩=some (.int .i64 k):=by rw[qD hh]; exact h1
 have hi:(prog.info? 44).map (·.size)=some cs.toList.length:=by rw[ubs,hs]; kernel_rfl
 have hx:=qox k hk (.agg cs);unfold Sc at hx
 go_enter func58,ntmps58
 go_wp2_with (first|(refine wpList_load_mid rfl 44 _ rfl w.heap.size 0 rfl cs.toList _ hr underlying44 rfl hi ?_)|simp only[hx,hc,ubd])
 exact hR _
def Ou:Ct:=⟨[.d factT],[.ic PE factT],λx=>((aU x.1,x.1),()),λx=>[1<=aU x.1/\aU x.1<=7]⟩
def qo5:af prog 58 Ou:=by
 refine⟨enters_of func58 (by kernel_rfl) rfl,λw F xs vs hbd hr hok=>?_⟩;obtain⟨f,_⟩:=xs;obtain⟨v,vs',rfl,hv,hn⟩:=hr;cases hn;have hv:bu w F factT f v:=hv;obtain⟨cs,rfl⟩:=hv.2.1.1 rfl;have hs:cs.size=39:=hv.1;have h1:cs[1]? = some (.int .i64 (aU f)):=hv.2.2.2.1.1;refine qo6 (aU f) hok cs hs h1 _ w λo=>Ui hbd ?_;unfold Jo;split
 ·rename_i ty h;exact R2 h hv
 ·rename_i h;exact Tb h
end
noncomputable def Ye:Cx:=cx [(29,On)] []
def Yf:CxOK prog Ye:=aP aG ⟨ql4,uT⟩ trivial
def io (s:aq.den) (f:factT.den):Int:=bif !(gF f) then 1 else bif decide (cC f<=mg s) then 12 else 0
def Gw:Ct:=⟨[.d aq,.d factT],[i64],λx=>(io x.1 x.2.1,()),λ_=>[]⟩
def qts:af prog 57 Gw:=
 conv (aS Yf f57 (fr:=λx=>Jb (!(gF x.2.1)) (Jv (1,())) (Jb (decide (cC x.2.1<=mg x.1)) (Jv (12,())) (Jv (0,())))) (ps:=Gw.ps) (rs:=[i64])) _ _ (λ_ _ x _ _ _=>by
  obtain⟨s,f,_⟩:=x;show _/\_=(io s f,());unfold io;cases h1 : !(gF f)
  ·refine aR (by first|rfl|exact h1) ?_;cases h2:decide (cC f<=mg s)
   ·exact aR (by first|rfl|exact h2) ⟨uT,rfl⟩
   ·exact aZ (by first|rfl|exact h2) ⟨uT,rfl⟩
  ·exact aZ (by first|rfl|exact h1) ⟨uT,rfl⟩)
noncomputable def qes:List (FuncId×Ct):=[(57,Gw),(58,Ou),(263,Oi),(275,Oh),(279,Ol),(280,Ok),(292,Og),(294,Om),(309,Oj)]
noncomputable def Yg:Cx:=cx qes []
def Yh:CxOK prog Yg:=aP aG ⟨qts,qo5,qfs,qfq,qfx,qfv,qfo,qfy,qft,uT⟩ trivial
abbrev D9:aq.den:=(([],()),[],[],[],0,())
def mL (s:aq.den) (f:factT.den):aa [aq,i64]:=bif aU f==1 then ((kx s f).1,(kx s f).2,()) else bif aU f==2 then ((kw s f).1,(kw s f).2,()) else bif aU f==3 then ((kB s f).1,(kB s f).2,()) else bif aU f==4 then ((kz s f).1,(kz s f).2,()) else bif aU f==5 then ((kv s f).1,(kv s f).2,()) else bif aU f==6 then ((kC s f).1,(kC s f).2,()) else ((ky s f).1,(ky s f).2,())
def lD (s:aq.den) (f:factT.den):aq.den×Int:=((mL s f).1,(mL s f).2.1)
def jY (s:aq.den) (f:factT.den):aq.den×Int:=
 bif io s f != 0 then (D9,io s f) else bif (lD s f).2 != 0 then (D9,(lD s f).2) else ((lD s f).1,0)
abbrev N0:List PT:=[.d aq,.d factT]
def Gh:Ct:=⟨N0,[aq,i64],λx=>((jY x.1 x.2.1).1,(jY x.1 x.2.1).2,()),λx=>[bD x.1]⟩
def Is (s:aq.den) (f:factT.den):Fr (aa [aq,i64]):=
 Jb (io s f != 0) (Jv (D9,io s f,())) (Jd (1<=aU f/\aU f<=7) (Jd (aU f=1->av [bD s]) (Jd (aU f≠1->av [aU f=2->av [bD s],aU f≠2->av [aU f=3->av [bD s],aU f≠3->av [aU f=4->av [bD s],aU f≠4->av [aU f=5->av [bD s],aU f≠5->av [aU f=6->av ([]:List Prop),aU f≠6->av [aU f=7]]]]]])
  (Jb ((mL s f).2.1 != 0) (Jv (D9,(mL s f).2.1,())) (Jv ((mL s f).1,0,()))))))
def qtt {s:aq.den} {f:factT.den} (h:io s f=0):gF f=true/\mg s<cC f:=by
 unfold io at h;cases h1:gF f
 ·rw[h1] at h; have h:(1:Int)=0:=h; exact absurd h (by decide)
 ·rw[h1] at h;refine⟨rfl,?_⟩;by_cases h2:cC f<=mg s
  ·rw[ud6 h2] at h; exact absurd h (by decide)
  ·omega
def ql2 {f:factT.den} (h:gF f=true):1<=aU f/\aU f<=7:=by
 unfold gF at h;rw[uc9,uc9] at h;exact⟨ucv h.1.1,ucv h.1.2⟩
def qfz (s:aq.den) (f:factT.den) (hs:bD s):(Is s f).ok/\(Is s f).get=((jY s f).1,(jY s f).2,()):=by
 unfold jY;cases h1:io s f != 0
 ·refine aR (by first|rfl|exact h1) ?_;have h0:io s f=0:=by simpa using h1
  have hk:=ql2 (qtt h0).1;refine aF hk (aF (λ_=>hs) (aF (λk1=>?_) ?_))
  ·exact⟨λ_=>hs,λk2=>⟨λ_=>hs,λk3=>⟨λ_=>hs,λk4=>⟨λ_=>hs,λk5=>⟨λ_=>uT,λk6=>Tg hk k1 k2 k3 k4 k5 k6⟩⟩⟩⟩⟩
  ·cases h2:(lD s f).2 != 0
   ·exact aR (by first|rfl|exact h2) ⟨uT,rfl⟩
   ·exact aZ (by first|rfl|exact h2) ⟨uT,rfl⟩
 ·exact aZ (by first|rfl|exact h1) ⟨uT,rfl⟩
def qf0:af prog 32 Gh:=
 conv (aS Yh f32 (fr:=λx=>Is x.1 x.2.1) (ps:=N0) (rs:=[aq,i64])) _ _ (λ_ _ x _ _ h=>qfz x.1 x.2.1 h)
noncomputable def zgm:Cx:=cx [(32,Gh),(31,Gy)] []
def zfw:CxOK prog zgm:=aP aG ⟨qf0,qt7,uT⟩ trivial
abbrev ze0:Pt:=⟨41,0,⟨[(22,.d i64),(21,.d i64),(20,.d (.sl factT)),(1,.d i64)],[.x 4 82 aq,.r 4 4 0,.x 6 82 aq,.r 6 6 0]⟩,⟨[],[.x 4 82 aq,.r 4 4 0,.x 6 82 aq,.r 6 6 0]⟩,⟨[],[]⟩⟩
abbrev zfg:Type:=ag [.d i64]×cR [.x 4 82 aq,.r 4 4 0,.x 6 82 aq,.r 6 6 0]
def zes (e:factT.den) (s:zfg):Fr zfg:=
 let a:=Gh.f (s.2.2.1,e,());Jb (decide (e.1>s.1.1)) (Jv s) (Jd (bD s.2.2.1) (Jb (a.2.1==0) (Jv ((s.1.1,()),s.2.1,a.1,())) (Jv s)))
def zev (x:ze0.M.X):Int×List factT.den×zfg:=(x.1.1,x.1.2.2.1,x.1.2.2.2,x.2)
def zgd (x:ze0.M.X):Prop:=x.1.2.1=(x.1.2.2.1.length:Int)
def zgj (s:zfg):ze0.E.X:=((),s.2.1,s.2.2.1,())
def zhs:ae prog (.loop (au f23 0)) ze0.M ze0 (FF zes zev zgd zgj):=
 LF zfw (λ_ _=>.n .o) factT.dflt (λx=>x.1.2.1) (λx s=>((I6.wrap (x.1.1+1),x.1.2.1,x.1.2.2.1,s.1),s.2)) (λ_ h=>h)
def zh3 (y:ze0.M.X):zfg:=kJ zes ((zev y).2.1.drop (zev y).1.toNat) (zev y).2.2
def zhz (y:ze0.M.X):Prop:=pg zes ((zev y).2.1.drop (zev y).1.toNat) (zev y).2.2
def zhi (x:ag [.d jourT,.d i64]):Fr (aa [aq,i64]):=
 let a:=((0,((List.length x.1.2.1):Int),x.1.2.1,x.2.1,()),(([],()),[],[],[],0,()),(Gy.f ((x.1.1.1,()),())).1,());Jb (decide (((List.length x.1.2.1):Int)>2000)) (Jv ((([],()),[],[],[],0,()),2,())) (Jd (InL (zgd a) (zev a)) (Jd (zhz a) (Jv ((zgj (zh3 a)).2.2.1,0,()))))
def zhj:af prog 23 (bg [.d jourT,.d i64] [aq,i64] zhi):=
 cS zfw zhs
def qn3 {i:Int} {l:List α} {x a:α} (h:a∈kL i l [x]):a∈l\/a=x:=by
 unfold kL at h;rw[udo,udo] at h;rcases h with (h|h)|h
 ·exact .inl (ubo h)
 ·exact .inr (ucd.1 h)
 ·exact .inl (ubp h)
def qn2 (i:Int) (l:List α) (x:α):(kL i l [x]).length=l.length+1:=by
 unfold kL;rw[ub4,ub4,uc2,uc3,ua6];omega
def Ub {g:α->Int} {l:List α} {x a:α} (h:a∈iT g l x):a∈l\/a=x:=qn3 h
def Ua (g:α->Int) (l:List α) (x:α):(iT g l x).length=l.length+1:=qn2 _ l x
def SS {l:List α} {x a:α} (h:a∈l.set i x):a∈l\/a=x:=uao h
def qh0 {t:b8.den} (h:bJ t):bD (ym t):=⟨h,ufa _,ufa _,λa ha=>by cases ha⟩
def qhw {s:aq.den} (f:factT.den) (h:bD s):bD (kx s f).1:=by
 unfold kx;cases h1:decide (aI s f>=0)
 ·cases h2:decide (((List.length (db s):Nat):Int)>=2000)
  ·have h2':=ucf h2;refine⟨h.1,?_,h.2.2.1,λa ha=>?_⟩
   ·show(iT nW (db s) ((bH f).1,0,())).length<=100000;rw[Ua]; omega
   ·rcases Ub ha with ha|ha
    ·exact h.2.2.2 a ha
    ·rw[ha]; exact NV _ _ _
  ·exact h
 ·exact h
def PY {s:aq.den} (i:Nat) (x:zjz.den) (h:bD s) (hx:bL x.1):bD (nH s ((db s).set i x)):=by
 refine⟨h.1,?_,h.2.2.1,λa ha=>?_⟩
 ·show((db s).set i x).length<=100000;rw[udk]; exact h.2.1
 ·rcases SS ha with ha|ha
  ·exact h.2.2.2 a ha
  ·rw[ha]; exact hx
def qhv {s:aq.den} (f:factT.den) (h:bD s):bD (kw s f).1:=by
 unfold kw;cases h1:decide (aI s f<0)
 ·cases h2:(bq s).any (qq f)
  ·exact PY _ _ h (Uq (xu h (ucf h1)))
  ·exact h
 ·exact h
def qh2 {s:aq.den} (f:factT.den) (h:bD s):bD (kB s f).1:=by
 unfold kB;cases h1:decide (aI s f<0)
 ·cases h2:decide (hH f>I6.wrap (4000000000000000000-(j5 s (aI s f)).2.1))
  ·exact PY _ _ h (xu h (ucf h1))
  ·exact h
 ·exact h
def qhz {s:aq.den} (f:factT.den) (h:bD s):bD (kz s f).1:=by
 unfold kz;cases h1:decide (jH s (fB f).1>=0)
 ·cases h2:decide (((List.length (bq s):Nat):Int)>=2000)
  ·have h2':=ucf h2;cases h3 : !(lA s f).2
   ·refine⟨h.1,h.2.1,?_,h.2.2.2⟩;show(iT oR (bq s) (fB f,[],())).length<=100000;rw[Ua]; omega
   ·exact h
  ·exact h
 ·exact h
def qhu {s:aq.den} (f:factT.den) (h:bD s):bD (kv s f).1:=by
 unfold kv;cases h1:decide (gI s f<0)
 ·refine⟨h.1,h.2.1,?_,h.2.2.2⟩;show((bq s).set (gI s f).toNat (pG s f).1).length<=100000;rw[udk]; exact h.2.2.1
 ·exact h
def qh3 {s:aq.den} (f:factT.den) (h:bD s):bD (kC s f).1:=by
 unfold kC;cases z9 s (fD f)
 ·cases decide (((List.length (jW s):Nat):Int)>=100)
  ·cases pi (jW s) (fD f)
   ·exact⟨h.1,h.2.1,h.2.2.1,h.2.2.2⟩
   ·exact h
  ·exact h
 ·exact h
def qhx {s:aq.den} (f:factT.den) (h:bD s):bD (ky s f).1:=by
 unfold ky;cases decide (hN f<=mg s)
 ·exact⟨h.1,h.2.1,h.2.2.1,h.2.2.2⟩
 ·exact h
def qhy {s:aq.den} (f:factT.den) (h:bD s):bD (lD s f).1:=by
 show bD (mL s f).1;unfold mL;cases aU f==1
 ·cases aU f==2
  ·cases aU f==3
   ·cases aU f==4
    ·cases aU f==5
     ·cases aU f==6
      ·exact qhx f h
      ·exact qh3 f h
     ·exact qhu f h
    ·exact qhz f h
   ·exact qh2 f h
  ·exact qhv f h
 ·exact qhw f h
def zfk (s:aq.den) (f:factT.den):aq.den:=bif (jY s f).2==0 then (jY s f).1 else s
def zar {s:aq.den} {f:factT.den} (h:(jY s f).2=0):io s f=0/\(lD s f).2=0/\(jY s f).1=(lD s f).1:=by
 unfold jY at h |-;cases h1:io s f != 0
 ·have h0:io s f=0:=by simpa using h1
  rw[h1] at h;cases h2:(lD s f).2 != 0
  ·exact⟨h0,by simpa using h2,rfl⟩
  ·rw[h2] at h;have h':(lD s f).2=0:=h;rw[h'] at h2; exact absurd h2 (by decide)
 ·rw[h1] at h;have h':io s f=0:=h;rw[h'] at h1; exact absurd h1 (by decide)
def zg9 {s:aq.den} (f:factT.den) (h:bD s):bD (zfk s f):=by
 unfold zfk;cases h1:(jY s f).2==0
 ·exact h
 ·show bD (jY s f).1;rw[(zar (eq_of_beq h1)).2.2];exact qhy f h
def ze9 (b:Int) (s:aq.den) (f:factT.den):aq.den:=bif decide (cC f>b) then s else zfk s f
def zha {b:Int} {s:aq.den} (f:factT.den) (h:bD s):bD (ze9 b s f):=by
 unfold ze9;cases decide (cC f>b)
 ·exact zg9 f h
 ·exact h
def zf9 (b:Int) (l:List factT.den) (s:aq.den):aq.den:=l.foldl (ze9 b) s
def ofJ (j:jourT.den) (b:Int):aq.den×Int:=bif decide (((List.length (α:=factT.den) j.2.1:Nat):Int)>2000) then (D9,2) else (zf9 b j.2.1 (ym j.1),0)
def zhx (e:factT.den) (b:Int) (q s:aq.den) (hs:bD s):(zes e ((b,()),q,s,())).ok/\(zes e ((b,()),q,s,())).get=((b,()),q,ze9 b s e,()):=by
 unfold ze9;cases h1:decide (cC e>b)
 ·refine aR (by first|rfl|exact h1) (aF hs ?_);unfold zfk;cases h2:(jY s e).2==0
  ·exact aR (by first|rfl|exact h2) ⟨uT,rfl⟩
  ·exact aZ (by first|rfl|exact h2) ⟨uT,rfl⟩
 ·exact aZ (by first|rfl|exact h1) ⟨uT,rfl⟩
def zgh (b:Int) (q:aq.den):(l:List factT.den)->(s:aq.den)->bD s->pg zes l ((b,()),q,s,())/\kJ zes l ((b,()),q,s,())=((b,()),q,zf9 b l s,())
 |[],_,_=>⟨uT,rfl⟩
 |e::l,s,hs=>by
  have h1:=zhx e b q s hs;have h2:=zgh b q l (ze9 b s e) (zha e hs);refine⟨⟨h1.1,?_⟩,?_⟩
  ·rw[h1.2]; exact h2.1
  ·show kJ zes l (zes e ((b,()),q,s,())).get=_;rw[h1.2]; exact h2.2
def zfq:Ct:=⟨[.d jourT,.d i64],[aq,i64],λx=>((ofJ x.1 x.2.1).1,(ofJ x.1 x.2.1).2,()),λx=>[bJ x.1.1]⟩
def zhw:af prog 23 zfq:=conv zhj _ _ (λ_ _ x _ _ ht=>by
 obtain⟨j,b,_⟩:=x;have ht:bJ j.1:=ht;show _/\_=((ofJ j b).1,(ofJ j b).2,());unfold ofJ;cases h:decide (((List.length (α:=factT.den) j.2.1:Nat):Int)>2000)
 ·have h':=ucf h;have hg:=zgh b D9 (List.drop 0 j.2.1) (ym j.1) (qh0 ht);refine aR (by first|rfl|exact h) (aF ⟨rfl,ue5 _,ub2 _,?_⟩ (aF hg.1 ⟨uT,?_⟩))
  ·show((List.length (α:=factT.den) j.2.1:Nat):Int)<=_;omega
  ·show((kJ zes (List.drop 0 j.2.1) ((b,()),D9,ym j.1,())).2.2.1,0,())=_;rw[hg.2,ueb];rfl
 ·exact aZ (by first|rfl|exact h) ⟨uT,rfl⟩)
noncomputable def zgn:Cx:=cx [(56,mB ak)] []
def zfx:CxOK prog zgn:=aP aG ⟨Bc,uT⟩ trivial
def zhd (x:ag [.d factT]):Fr (aa [factT]):=
 let c:=mB ak;let a:=x.1.2.2.2.2.2;let b:=a.2.1.2.2;Jd (List.length a.1.2.2.1<=1000000) (Jd (List.length b.2.2.1<=1000000) (Jv ((x.1.1,x.1.2.1,x.1.2.2.1,x.1.2.2.2.1,x.1.2.2.2.2.1,(a.1.1,a.1.2.1,(c.f (a.1.2.2.1,())).1,()),(a.2.1.1,a.2.1.2.1,b.1,b.2.1,(c.f (b.2.2.1,())).1,b.2.2.2.1,()),a.2.2.1,a.2.2.2.1,a.2.2.2.2.1,()),())))
def zhe:af prog 30 (bg [.d factT] [factT] zhd):=
 aS zfx f30
def zhb (x:ag [.d jourT]):Fr (aa [i64]):=
 let a:=((0,((List.length x.1.2.1):Int),x.1.2.1,0,()),());Jd (InL (zgc a) (zeu a)) (Jd (zhy a) (Jv ((zgi (zh2 a)).1.1,())))
def zhc:af prog 28 (bg [.d jourT] [i64] zhb):=
 cS zfx zhr
def ze4 (f:factT.den):Prop:=(mV f).2.2.1.length<=1000000/\(lF f).2.2.2.2.1.length<=1000000
def zfp:Ct:=⟨[.d factT],[factT],λx=>(x.1,()),λx=>[ze4 x.1]⟩
def zhk:af prog 30 zfp:=conv zhe _ _ (λ_ _ x _ _ h=>aF h.1 (aF h.2 ⟨uT,rfl⟩))
def zfa (d:Int) (f:factT.den):Int:=bif aU f==7 then (if d<hN f then hN f else d) else d
def zfr (l:List factT.den):Int:=l.foldl zfa 0
def zg5 (e:factT.den) (d:Int):(zer e ((d,()),())).ok/\(zer e ((d,()),())).get=((zfa d e,()),()):=by
 unfold zfa;cases h:aU e==7
 ·exact aR (by first|rfl|exact h) ⟨uT,rfl⟩
 ·exact aZ (by first|rfl|exact h) ⟨uT,rfl⟩
def zf4:(l:List factT.den)->(d:Int)->pg zer l ((d,()),())/\kJ zer l ((d,()),())=((l.foldl zfa d,()),())
 |[],_=>⟨uT,rfl⟩
 |e::l,d=>by
  have h1:=zg5 e d;have h2:=zf4 l (zfa d e);refine⟨⟨h1.1,?_⟩,?_⟩
  ·rw[h1.2]; exact h2.1
  ·show kJ zer l (zer e ((d,()),())).get=_;rw[h1.2]; exact h2.2
def zfo:Ct:=⟨[.d jourT],[i64],λx=>(zfr x.1.2.1,()),λ_=>[]⟩
def qol {j:jourT.den} (h:bu w F jourT j v):((List.length (α:=factT.den) j.2.1:Nat):Int)<=9223372036854775807:=by
 have h1:List.length (α:=factT.den) j.2.1<=maxLen:=(aA.wf h.2.2).2.1.1;unfold maxLen at h1;omega
def zg6:af prog 28 zfo:=conv zhc _ _ (λw F x vs hr _=>by
 obtain⟨j,_⟩:=x;obtain⟨v,vs',rfl,hv,_⟩:=hr;have hg:=zf4 (List.drop 0 j.2.1) 0;refine aF ⟨rfl,ue5 _,ub2 _,qol hv⟩ (aF hg.1 ⟨uT,?_⟩);show((kJ zer (List.drop 0 j.2.1) ((0,()),())).1.1,())=_;rw[hg.2,ueb];rfl)
noncomputable def zgo:Cx:=cx [(30,zfp),(28,zfo),(29,On)] []
def zgp:CxOK prog zgo:=aP aG ⟨zhk,zg6,ql4,uT⟩ trivial
def zft (x:ag [.d jourT,.d factT]):Fr (aa [jourT,i64]):=
 let k:=zfo.f (x.1,());let g:=(([],()),[],());let c:=zfp.f (x.2.1,());let b:=List.drop ((0:Int)).toNat x.1.2.1;let a:=((List.length x.1.2.1):Int);let h:=List.take (a-(0:Int)).toNat b;Jb (!(On.f (x.2.1,())).1) (Jv (g,1,())) (Jb (decide (a>=2000)) (Jv (g,2,())) (Jd (decide (a>0)=true->0<=I6.wrap (a-1)/\I6.wrap (a-1)<a) (Jb (bif decide (a>0) then decide (x.2.1.1<(List.getD x.1.2.1 (I6.wrap (a-1)).toNat factT.dflt).1) else false) (Jv (g,4,())) (Jb (bif decide (x.2.1.1<=k.1) then true else bif x.2.1.2.1==7 then decide (x.2.1.2.2.2.2.1<=k.1) else false) (Jv (g,12,())) (Jd (0<=(0:Int)/\(0:Int)<=a/\a<=a/\a=a) (Jd (ze4 x.2.1) (Jd (0 < [c.1].length/\h.length + [c.1].length<=maxLen/\(h.length + [c.1].length)*344<=140737488355328) (Jv (((x.1.1.1,()),List.take (a-(0:Int)).toNat b++[c.1],()),0,())))))))))
def zhf:af prog 10 (bg [.d jourT,.d factT] [jourT,i64] zft):=
 aS zgp f10
abbrev j00:jourT.den:=(([],()),[],())
def ze5 (l:List factT.den) (f:factT.den):Bool:=match l.getLast? with
 |some g=>decide (cC f<cC g)
 |none=>false
def zfm (l:List factT.den) (f:factT.den):Bool:=bif decide (cC f<=zfr l) then true else bif aU f==7 then decide (hN f<=zfr l) else false
def zeo (j:jourT.den) (f:factT.den):jourT.den×Int:=
 bif !(gF f) then (j00,1) else bif decide (((List.length (α:=factT.den) j.2.1:Nat):Int)>=2000) then (j00,2) else bif ze5 j.2.1 f then (j00,4) else bif zfm j.2.1 f then (j00,12) else ((j.1,j.2.1++[f],()),0)
def zge (l:List factT.den) (f:factT.den) (hl:l.length<2000):(bif decide (((List.length l:Nat):Int)>0) then decide (cC f<(List.getD l (I6.wrap (((List.length l:Nat):Int)-1)).toNat factT.dflt).1) else false)=ze5 l f:=by
 unfold ze5;cases l with
 |nil=>rfl
 |cons a r=>
  have hw:I6.wrap (((a::r).length:Int)-1)=r.length:=by
   rw[IntWalk.i64_in _ (by simp at hl |-; omega)]; simp
  rw[hw,ud6 (by simp:(((a::r).length:Nat):Int)>0),uan,uah];have:((r.length:Int)).toNat=(a::r).length-1:=by simp
  rw[this,uap (by simp)];rfl
def zhp {l:List factT.den} (hl:l.length<2000):decide (((List.length l:Nat):Int)>0)=true->0<=I6.wrap (((List.length l:Nat):Int)-1)/\I6.wrap (((List.length l:Nat):Int)-1)<((List.length l:Nat):Int):=λh=>by
 have h:=ucv h;rw[IntWalk.i64_in _ (by omega)];omega
def zhm (t:b8.den) (l:List factT.den) (f:factT.den) (hf:gF f=true->ze4 f):(zft ((t,l,()),f,())).ok/\(zft ((t,l,()),f,())).get=((zeo (t,l,()) f).1,(zeo (t,l,()) f).2,()):=by
 unfold zeo;cases h1 : !(gF f)
 ·refine aR h1 ?_;cases h2:decide (((List.length l:Nat):Int)>=2000)
  ·refine aR rfl ?_;have hl:l.length<2000:=by have:=ucf h2; omega
   refine aF (zhp hl) ?_;cases h3:ze5 l f
   ·refine aR ((zge l f hl).trans h3) ?_;cases h4:zfm l f
    ·refine aR h4 (aF ⟨ue5 _,by omega,ue5 _,rfl⟩ (aF (hf (by simpa using h1)) (aF ⟨Nat.one_pos,?_,?_⟩ ⟨uT,?_⟩)))
     ·show(List.take (((List.length l:Nat):Int)-0).toNat (List.drop 0 l)).length+1<=maxLen;rw[uc2,uc3]; unfold maxLen; omega
     ·show((List.take (((List.length l:Nat):Int)-0).toNat (List.drop 0 l)).length+1)*344<=140737488355328;rw[uc2,uc3]; omega
     ·show((t,List.take (((List.length l:Nat):Int)-0).toNat (List.drop 0 l)++[f],()),0,())=_;rw[ueb,ua2 (by omega)];rfl
    ·exact aZ h4 ⟨uT,rfl⟩
   ·exact aZ ((zge l f hl).trans h3) ⟨uT,rfl⟩
  ·exact aZ rfl ⟨uT,rfl⟩
 ·exact aZ h1 ⟨uT,rfl⟩
def qiy (x:ag [.d factT]):Fr (aa [.bool]):=
 Jv (bif decide (((List.length x.1.2.2.2.2.2.1.2.2.1):Int)<=50) then decide (((List.length x.1.2.2.2.2.2.2.1.2.2.2.2.1):Int)<=50) else false,())
def qiz:af prog 41 (bg [.d factT] [.bool] qiy):=
 aS aH f41
def qU (f:factT.den):Bool:=bif decide (((List.length (mV f).2.2.1:Nat):Int)<=50) then decide (((List.length (lF f).2.2.2.2.1:Nat):Int)<=50) else false
def Gn:Ct:=⟨[.d factT],[.bool],λx=>(qU x.1,()),λ_=>[]⟩
def qh4:af prog 41 Gn:=conv qiz _ _ (λ_ _ _ _ _ _=>⟨uT,rfl⟩)
noncomputable def Yi:Cx:=cx [(41,Gn)] []
def Yj:CxOK prog Yi:=aP aG ⟨qh4,uT⟩ trivial
abbrev lT:Pt:=⟨36,0,⟨[(6,.d i64)],[.x 2 27 jourT,.r 2 2 0]⟩,⟨[],[]⟩,⟨[(4,.d .bool)],[]⟩⟩
abbrev vQ:Type:=ag []×cR [.x 2 27 jourT,.r 2 2 0]
def vZ (e:factT.den) (s:vQ):Fr (vQ ⊕ lT.R.X):=
 Jb (!(Gn.f (e,())).1) (Jv (.inr ((false,()),()))) (Jv (.inl ((),s.2.1,())))
def pR (x:lT.M.X):Int×List factT.den×vQ:=(x.1.1,x.2.1.2.1,x.1.2,x.2)
def Rc (x:lT.M.X):Prop:=True
def qvl (s:vQ):lT.E.X:=((),())
def qe0:vQ:=(aW _,bN _)
def Pj:lT.R.X:=(aW _,bN _)
def qr8:ae prog (.loop (au f17 0)) lT.M lT (FL vZ pR Rc qvl Rd.back qe0 Pj):=
 qf Yj (λ_ _=>.n .o) factT.dflt (λx=>((x.2.1.2.1.length:Nat):Int)) (λx s=>((I6.wrap (x.1.1+1),s.1),s.2)) (λ_ _=>rfl)
def qxh (y:lT.M.X):vQ ⊕ lT.R.X:=dt vZ ((pR y).2.1.drop (pR y).1.toNat) (pR y).2.2
def quz (y:lT.M.X):Prop:=jo vZ ((pR y).2.1.drop (pR y).1.toNat) (pR y).2.2
noncomputable def Yk:Cx:=cx [(40,Gl)] []
def Yl:CxOK prog Yk:=aP aG ⟨qh1,uT⟩ trivial
def qiw (x:ag [.d jourT,.d i64]):Fr (aa [.bool]):=
 let a:=((0,()),x.1,());let b:=qxh a;Jb (bif !(Gl.f ((0,0,((0,0,()),(0,0,0,0,()),[],()),[],()),(x.1.1.1,()),())).1 then true else decide (((List.length x.1.2.1):Int)>x.2.1)) (Jv (false,())) (Jd (InL (Rc a) (pR a)) (Jd (quz a) (Jb (dF b) (Jv (true,())) (Jv ((zej Pj b).1.1,())))))
def qix:af prog 17 (bg [.d jourT,.d i64] [.bool] qiw):=
 cS Yl qr8
def zbn {good ok:Prop} {g:σ ⊕ ρ} {v:ρ->Bool} {d:ρ} {s1:σ} {c:ρ} {b:Bool} (hg:good) (ho:ok) (h:g=if b=true then .inl s1 else .inr c) (hc:v c=false) :
  (Jd good (Jd ok (Jb (dF g) (Jv ((true,()):aa [.bool])) (Jv (v (zej d g),()))))).ok/\(Jd good (Jd ok (Jb (dF g) (Jv ((true,()):aa [.bool])) (Jv (v (zej d g),()))))).get=(b,()):=by
 cases b
 ·have h':=h;subst h';exact aF hg (aF ho (aR rfl ⟨uT,by show(v c,())=_; rw[hc]⟩))
 ·have h':=h;subst h';exact aF hg (aF ho (aZ rfl ⟨uT,rfl⟩))
def acE (e:bn.den×bn.den):Bool:=e.1.1==e.2.1&&(e.1.2.1==e.2.2.1&&(e.1.2.2.1==e.2.2.2.1&&true))
def clE (a b:dD.den):Bool:=a.1==b.1&&(a.2.1==b.2.1&&(a.2.2.1==b.2.2.1&&(a.2.2.2.1==b.2.2.2.1&&(a.2.2.2.2.1==b.2.2.2.2.1&&(a.2.2.2.2.2.1==b.2.2.2.2.2.1&&true)))))
def qyf (a b:ar.den):Bool:=bif bif !(clE a.1 b.1) then true else ((List.length (α:=bn.den) a.2.1:Nat):Int) != ((List.length (α:=bn.den) b.2.1:Nat):Int) then false else (List.zip (α:=bn.den) (β:=bn.den) a.2.1 b.2.1).all acE
def qbv:Ct:=⟨[.d ar,.d ar],[.bool],λx=>(qyf x.1 x.2.1,()),λ_=>[]⟩
def orF {a b:Bool} (h:(bif a then true else b)=false):a=false/\b=false:=by cases a<;>cases b<;>first|exact⟨rfl,rfl⟩|cases h
def mX (j:jourT.den) (n:Int):Bool:=bif bif !(mW fF j.1) then true else decide (((List.length (α:=factT.den) j.2.1:Nat):Int)>n) then false else j.2.1.all qU
def Oo:Ct:=⟨[.d jourT,.d i64],[.bool],λx=>(mX x.1 x.2.1,()),λ_=>[]⟩
def qhq:af prog 17 Oo:=conv qix _ _ (λw F x vs hr _=>by
 obtain⟨j,n,_⟩:=x;obtain⟨v,vs',rfl,hv,_⟩:=hr;have hlen:=qol hv;show _/\_=(mX j n,());unfold mX;cases h:(bif !(mW fF j.1) then true else decide (((List.length (α:=factT.den) j.2.1:Nat):Int)>n))
 ·refine aR h (zbn (v:=λr=>r.1.1) (s1:=((),j,())) (c:=((false,()),())) ⟨uT,ue5 _,ub2 _,hlen⟩ (JM (step:=vZ) _ (λe _ s=>⟨λ_=>uT,λ_=>uT⟩) _) ?_ rfl);show dt vZ (List.drop 0 j.2.1) _=_;rw[ueb,ID (step:=vZ) (I:=λ_=>True) (p:=qU) (c:=((false,()),())) (λe s _=>?_) _ _ trivial]
  ·cases j.2.1.all qU<;>rfl
  ·show(Jb (!(qU e)) _ _).get=_;cases qU e<;>rfl
 ·exact aZ h ⟨uT,rfl⟩)
def qhp {j:jourT.den} {n:Int} (h:mX j n=true):bJ j.1/\((List.length (α:=factT.den) j.2.1:Nat):Int)<=n/\∀ f∈j.2.1,qU f=true:=by
 unfold mX at h;cases h1:(bif !(mW fF j.1) then true else decide (((List.length j.2.1:Nat):Int)>n))
 ·rw[h1] at h;obtain⟨h2,h3⟩:=orF h1;have h4:mW fF j.1=true:=by simpa using h2
  exact⟨(qhn h4).2,by have:=ucf h3; omega,uc5.mp h⟩
 ·rw[h1] at h; cases h
def qj3 (x:ag [.d az,.d az]):Fr (aa [.bool]):=
 let b:=x.1.2.2.2;let a:=x.2.1.2.2.2;Jv (bif bif bif bif bif (wV.f (b.2.1,a.2.1,())).1 then x.1.1==x.2.1.1 else false then x.1.2.1==x.2.1.2.1 else false then x.1.2.2.1==x.2.1.2.2.1 else false then b.1.1==a.1.1&&(b.1.2.1==a.1.2.1&&(b.1.2.2.1==a.1.2.2.1&&(b.1.2.2.2.1==a.1.2.2.2.1&&true))) else false then b.2.2.1==a.2.2.1 else false,())
def qj4 (x:ag [.d dm,.d dm]):Fr (aa [.bool]):=
 let b:=x.1.2.1;let a:=x.2.1;Jv (bif bif (wV.f (x.1.2.2.1,a.2.2.1,())).1 then x.1.1.1==a.1.1&&(x.1.1.2.1==a.1.2.1&&true) else false then b.1==a.2.1.1&&(b.2.1==a.2.1.2.1&&(b.2.2.1==a.2.1.2.2.1&&(b.2.2.2.1==a.2.1.2.2.2.1&&true))) else false,())
def qyi (a b:az.den):Bool:=(qj3 (a,b,())).get.1
def zav (a b:dm.den):Bool:=(qj4 (a,b,())).get.1
def shB (a b:aC.den):Bool:=bif bif bif !(zav a.2.2.1 b.2.2.1) then true else a.1 != b.1 then true else a.2.1 != b.2.1 then true else ((List.length (α:=az.den) a.2.2.2.1:Nat):Int) != ((List.length (α:=az.den) b.2.2.2.1:Nat):Int)
def shF (a b:aC.den):Bool:=bif shB a b then false else (List.zip (α:=az.den) (β:=az.den) a.2.2.2.1 b.2.2.2.1).all λe=>qyi e.1 e.2
def cSH:Ct:=⟨[.d aC,.d aC],[.bool],λx=>(shF x.1 x.2.1,()),λ_=>[]⟩
abbrev rQ:Pt:=⟨127,0,⟨[(6,.d i64)],[.x 2 82 aq,.r 2 2 0,.x 3 82 aq,.r 3 3 0]⟩,⟨[],[.x 2 82 aq,.r 2 2 0,.x 3 82 aq,.r 3 3 0]⟩,⟨[(4,.d .bool)],[]⟩⟩
abbrev vS:Type:=ag []×cR [.x 2 82 aq,.r 2 2 0,.x 3 82 aq,.r 3 3 0]
def zas (e:(zjz.den×zjz.den)) (s:vS):Fr (vS ⊕ rQ.R.X):=
 Jb (bif !(cSH.f (e.1.1,e.2.1,())).1 then true else e.1.2.1 != e.2.2.1) (Jv (.inr ((false,()),()))) (Jv (.inl ((),s.2.1,s.2.2.1,())))
def Ly (x:rQ.M.X):Int×List (zjz.den×zjz.den)×vS:=(x.1.1,x.2.1.2.1.zip x.2.2.1.2.1,x.1.2,x.2)
def qvp (s:vS):rQ.E.X:=((),s.2.1,s.2.2.1,())
def qe3:vS:=(aW _,bN _)
def qxi (y:rQ.M.X):vS ⊕ rQ.R.X:=dt zas ((Ly y).2.1.drop (Ly y).1.toNat) (Ly y).2.2
abbrev rR:Pt:=⟨127,2,⟨[(8,.d i64)],[.x 2 82 aq,.r 2 2 0,.x 3 82 aq,.r 3 3 0]⟩,⟨[],[.x 2 82 aq,.r 2 2 0,.x 3 82 aq,.r 3 3 0]⟩,⟨[(4,.d .bool)],[]⟩⟩
abbrev vT:Type:=ag []×cR [.x 2 82 aq,.r 2 2 0,.x 3 82 aq,.r 3 3 0]
def zat (e:(ar.den×ar.den)) (s:vT):Fr (vT ⊕ rR.R.X):=
 Jb (!(qbv.f (e.1,e.2,())).1) (Jv (.inr ((false,()),()))) (Jv (.inl ((),s.2.1,s.2.2.1,())))
def Lz (x:rR.M.X):Int×List (ar.den×ar.den)×vT:=(x.1.1,x.2.1.2.2.1.zip x.2.2.1.2.2.1,x.1.2,x.2)
def qvq (s:vT):rR.E.X:=((),s.2.1,s.2.2.1,())
def qe4:vT:=(aW _,bN _)
def qxj (y:rR.M.X):vT ⊕ rR.R.X:=dt zat ((Lz y).2.1.drop (Lz y).1.toNat) (Lz y).2.2
abbrev en0 (a b:aq.den):rQ.M.X:=((0,()),a,b,())
abbrev o0 (a b:aq.den):rQ.E.X:=qvp (dO qe3 (qxi (en0 a b)))
abbrev en1 (a b:aq.den):rR.M.X:=((0,()),(o0 a b).2.1,(o0 a b).2.2.1,())
abbrev o1 (a b:aq.den):rR.E.X:=qvq (dO qe4 (qxj (en1 a b)))
def zh1 {j:jourT.den} {f:factT.den} (h:(zeo j f).2=0):gF f=true/\(zeo j f).1=(j.1,j.2.1++[f],())/\ze5 j.2.1 f=false/\zfm j.2.1 f=false/\((List.length (α:=factT.den) j.2.1:Nat):Int)<2000:=by
 unfold zeo at h |-;cases h1:gF f
 ·rw[h1] at h; have h:(1:Int)=0:=h; exact absurd h (by decide)
 ·rw[h1] at h;cases h2:decide (((List.length (α:=factT.den) j.2.1:Nat):Int)>=2000)
  ·rw[h2] at h;cases h3:ze5 j.2.1 f
   ·rw[h3] at h;cases h4:zfm j.2.1 f
    ·exact⟨rfl,rfl,rfl,rfl,by have:=ucf h2; omega⟩
    ·rw[h4] at h; have h:(12:Int)=0:=h; exact absurd h (by decide)
   ·rw[h3] at h; have h:(4:Int)=0:=h; exact absurd h (by decide)
  ·rw[h2] at h; have h:(2:Int)=0:=h; exact absurd h (by decide)
noncomputable def Ym:Cx:=cx [(55,iD),(103,lx),(144,fM)] []
def Yn:CxOK prog Ym:=aP aG ⟨vF,yK,oT,uT⟩ trivial
def Qo (x:ag [.d ah,.d ay]):Fr (aa [.bool]):=
 let c:=iD.f (x.1,());let b:=lx.f (x.2.1,());let a:=fM.f (x.1.2.2.1,x.2.1.2.2.1,());Jd ((bif bif c.1 then b.1 else false then a.1 else false)=true->¬x.2.1.2.2.2.1<0) (Jv (bif bif bif c.1 then b.1 else false then a.1 else false then I6.wrap ((BitVec.ofInt I6.bits (Int.fdiv x.1.2.2.2.2.2.2.2.1 (2 ^ min (Int.toNat x.2.1.2.2.2.1) I6.bits)) &&& BitVec.ofInt I6.bits 1).toNat:Int)==1 else false,()))
def qkc:af prog 154 (bg [.d ah,.d ay] [.bool] Qo):=
 aS Yn f154
def zbp (t:ah.den) (l:ay.den):Bool:=(Qo (t,l,())).get.1
def ko:Ct:=⟨[.d ah,.d ay],[.bool],λx=>(zbp x.1 x.2.1,()),λ_=>[]⟩
def qww {l:ay.den} (h:yJ l=true):0<=l.2.2.2.1/\l.2.2.2.1<=7:=by
 unfold yJ xz at h;have e:∀ (b:Bool) (x y:Fr (aa [.bool])),(Jb b x y).get=bif b then x.get else y.get:=λb x y=>by cases b<;>rfl
 simp only[e] at h;have hv:∀ z:aa [.bool],(Jv z).get=z:=λ_=>rfl;simp only[hv] at h;cases h4:(gk.f ((0,7,()),[l.2.2.2.1],())).1
 ·cases h1:(gk.f ((1,1000000000,()),[l.1],())).1<;>cases h2:(gk.f ((0,1000000000,()),[l.2.1],())).1<;>cases h3:(gk.f ((1,292194,()),[l.2.2.1],())).1<;>simp only[h1,h2,h3,h4] at h<;>cases h
 ·have h5:rf 0 7 [l.2.2.2.1]=true:=h4;unfold rf at h5;simpa using h5
def zbq {t:ah.den} {l:ay.den} (h:(bif bif Dv t then yJ l else false then (fM.f (t.2.2.1,l.2.2.1,())).1 else false)=true):Dv t=true/\yJ l=true/\(fM.f (t.2.2.1,l.2.2.1,())).1=true:=by
 rw[gU,gU,uc9,uc9] at h;exact⟨h.1.1,h.1.2,h.2⟩
def z7:af prog 154 ko:=conv qkc _ _ (λ_ _ x _ _ _=>by
 obtain⟨t,l,_⟩:=x;refine⟨⟨λh=>?_,uT⟩,rfl⟩;exact ufe.mpr (qww (zbq h).2.1).1)
abbrev dq:Ty:=.pair i64 (.pair i64 .unit)
abbrev bi:Ty:=.pair i64 (.pair ak (.pair aK .unit))
abbrev bS:Ty:=.pair i64 (.pair i64 (.pair i64 (.pair i64 (.pair i64 (.pair i64 .unit)))))
abbrev cK:Ty:=.pair bS (.pair .bool .unit)
abbrev aw:Ty:=.pair i64 (.pair bn .unit)
abbrev ep:Ty:=.pair i64 (.pair i64 (.pair i64 .unit))
abbrev co:Ty:=.pair i64 (.pair i64 (.pair i64 .unit))
abbrev bR:Ty:=.pair i64 (.pair i64 .unit)
abbrev bp:Ty:=.pair i64 (.pair i64 (.pair (.sl bR) .unit))
abbrev bV:Ty:=.pair (.sl bp) .unit
abbrev dw:Ty:=.pair i64 (.pair i64 (.pair i64 (.pair i64 (.pair i64 (.pair i64 (.pair i64 (.pair i64 (.pair i64 (.pair i64 .unit)))))))))
noncomputable def YO:Cx:=cx [(154,ko),(96,iC),(55,iD)] []
def Mz:CxOK prog YO:=aP aG ⟨z7,wL,vF,uT⟩ trivial
def BK (x:ag [.d ah,.d ay]):Fr (aa [i64,.bool]):=
 Jb (bif x.1.2.1 != 1 then true else !(ko.f x).1) (Jv (0,false,())) (Jv ((iC.f (x.2.1.2.2.2.2.1,x.1.2.2.2.1,())).1,true,()))
def qjy:af prog 114 ⟨[.d ah,.d ay],[i64,.bool],λxs=>(BK xs).get,λxs=>[(BK xs).ok]⟩:=
 cf Mz (Λ:=bw) (fn:=f114) (aW [.d ah,.d ay]) (by kernel_rfl) (λc E _=>aY c 0) (λx=>by kernel_rfl)
def AT:Ct:=⟨[.d ah,.d ay],[i64,.bool],λx=>(BK x).get,λ_=>[]⟩
def O5:af prog 114 AT:=conv qjy _ _ (λ_ _ x _ _ _=>⟨by unfold BK; repeat' first|exact trivial|intro _|refine⟨?_,?_⟩|decide,rfl⟩)
def BC (x:ag [.d ah]):Fr (aa [.bool]):=
 Jv (bif (iD.f (x.1,())).1 then x.1.2.1 != 1 else false,())
def qi8:af prog 193 ⟨[.d ah],[.bool],λxs=>(BC xs).get,λxs=>[(BC xs).ok]⟩:=
 cf Mz (Λ:=bw) (fn:=f193) (aW [.d ah]) (by kernel_rfl) (λc E _=>aY c 0) (λx=>by kernel_rfl)
def AN:Ct:=⟨[.d ah],[.bool],λx=>(BC x).get,λ_=>[]⟩
def qcd:af prog 193 AN:=conv qi8 _ _ (λ_ _ x _ _ _=>⟨uT,rfl⟩)
noncomputable def YR:Cx:=cx [(193,AN),(96,iC),(126,j6)] []
def M1:CxOK prog YR:=aP aG ⟨qcd,wL,xn,uT⟩ trivial
def BA (x:ag [.d ah,.d i64]):Fr (aa [i64]):=
 Jb (bif !(AN.f (x.1,())).1 then true else decide (x.2.1<=x.1.2.2.2.2.1)) (Jv (0,())) (Jv (if I6.wrap (x.2.1-x.1.2.2.2.2.1)<x.1.2.2.2.2.2.1 then I6.wrap (x.2.1-x.1.2.2.2.2.1) else x.1.2.2.2.2.2.1,()))
def qi6:af prog 160 ⟨[.d ah,.d i64],[i64],λxs=>(BA xs).get,λxs=>[(BA xs).ok]⟩:=
 cf M1 (Λ:=bw) (fn:=f160) (aW [.d ah,.d i64]) (by kernel_rfl) (λc E _=>aY c 0) (λx=>by kernel_rfl)
def mF:Ct:=⟨[.d ah,.d i64],[i64],λx=>(BA x).get,λ_=>[]⟩
def O2:af prog 160 mF:=conv qi6 _ _ (λ_ _ x _ _ _=>⟨by unfold BA; repeat' first|exact trivial|intro _|refine⟨?_,?_⟩|decide,rfl⟩)
def BB (x:ag [.d ah]):Fr (aa [i64]):=
 Jb (!(AN.f (x.1,())).1) (Jv (0,())) (Jv (I6.wrap (x.1.2.2.2.2.2.1*I6.wrap (1+x.1.2.2.2.2.2.2.1)),()))
def qi7:af prog 158 ⟨[.d ah],[i64],λxs=>(BB xs).get,λxs=>[(BB xs).ok]⟩:=
 cf M1 (Λ:=bw) (fn:=f158) (aW [.d ah]) (by kernel_rfl) (λc E _=>aY c 0) (λx=>by kernel_rfl)
def tB:Ct:=⟨[.d ah],[i64],λx=>(BB x).get,λ_=>[]⟩
def O3:af prog 158 tB:=conv qi7 _ _ (λ_ _ x _ _ _=>⟨by unfold BB; repeat' first|exact trivial|intro _|refine⟨?_,?_⟩|decide,rfl⟩)
abbrev vi:Pt:=⟨19,0,⟨[(9,.d i64),(8,.d i64),(7,.d aK),(0,.d i64)],[]⟩,⟨[(0,.d i64)],[]⟩,⟨[],[]⟩⟩
def KY (k:Int×(List Int)) (b:Prop) (i:Int) (e:i64.den) (s:Int):Fr (Int):=
 Jd b (Jv (if e<s then e else s))
def MT:vi.M.X->Fr vi.Out:=FG (λx=>(x.1.1,(x.1.2.1,x.1.2.2.1),x.1.2.2.2.1)) (λk=>k.1) (λk=>k.2) KY (λk s=>((s,()),()))
def qry:ae prog (.loop (au f129 0)) vi.M vi MT:=
 cN aH (λi k s=>((i,k.1,k.2,s,()),())) i64.dflt
def qmh:=λk s=>bO (KY k True) 0 k.2 s
def qup:=λk s=>bM (KY k True) 0 k.2 s
def zd0 (Γ:Gm):St->Option Tr:=vi.han Γ vi.M MT
def Ae:(ps:List PT)->ag ps->Prop
 |[],_=>True
 |.d t::r,x=>Wf t x.1/\Ae r x.2
 |_::r,x=>Ae r x.2
def qh:{ps:List PT} -> {x:ag ps} -> {vs:List Value}->cJ P w F ps x vs->Ae ps x
 |[],_,_,_=>trivial
 |.d _::_,_,_,⟨_,_,_,h,hr⟩=>⟨aA.wf h.2.2,qh hr⟩
 |.ptr _::r,x,_,⟨_,_,_,_,hr⟩=>qh (ps:=r) (x:=x.2) hr
 |.fn _ _::r,x,_,⟨_,_,_,_,hr⟩=>qh (ps:=r) (x:=x.2) hr
 |.pf _ _::r,x,_,⟨_,_,_,_,hr⟩=>qh (ps:=r) (x:=x.2) hr
 |.pfn _ _::r,x,_,⟨_,_,_,_,hr⟩=>qh (ps:=r) (x:=x.2) hr
 |.pk f::r,x,_,⟨_,_,_,_,hr⟩=>qh (ps:=r) (x:=x.2) hr
def bW {ps:List PT} {rs:List Ty} {fr:ag ps->Fr (aa rs)} (h:af P f ⟨ps,rs,λxs=>(fr xs).get,λxs=>[(fr xs).ok]⟩) (ok:ag ps->List Prop)
  (hg:∀ xs,Ae ps xs->av (ok xs)->(fr xs).ok):af P f ⟨ps,rs,λx=>(fr x).get,ok⟩:=
 conv h _ ok (λ_ _ xs _ hr hok=>⟨hg xs (qh hr) hok,rfl⟩)
def Sm {E:Env} {Λ:Nat->St->Option Tr} {c b0 b1:Code} (hn:ce c=2) (hb0:Go.Ab.loopB c 0=some b0) (hb1:Go.Ab.loopB c 1=some b1) (h0:i5 P E b0 (Λ 0)) (h1:i5 P E b1 (Λ 1)):bP P E Λ c 0:=by
 refine jJ c 0 λi b' hb'=>?_;have h2:=Go.Ab.loopB_lt hb'
 match i,hb',h2 with
 |0,hb',_=>
  rw[hb0] at hb';cases hb';exact h0
 |1,hb',_=>
  rw[hb1] at hb';cases hb';exact h1
 |i+2,_,h2=>omega
def gt (h:n<=maxLen):InK (n:Int) 0 n:=⟨rfl,ue5 _,ub2 _,by unfold maxLen at h; omega⟩
def uP {step:Int->T->σ->Fr σ} (h:∀ i e s,(step i e s).ok):(l:List T)->(i:Int)->(s:σ)->bM step i l s
 |[],_,_=>trivial
 |_::r,_,_=>⟨h _ _ _,uP h r _ _⟩
def JL {step:Int->T->σ->Fr (σ ⊕ ρ)} (h:∀ i e s,(step i e s).ok):(l:List T)->(i:Int)->(s:σ)->eJ step i l s
 |[],_,_=>trivial
 |_::r,_,_=>⟨h _ _ _,by split; exact JL h r _ _; trivial⟩
def nK {q:Prop} {g:σ} {k:σ->Fr α} (hp:p) (hq:q) (hk:∀ s,(k s).ok):(cI p q g k).ok:=⟨hp,hq,hk g⟩
def ss {q:Prop} {g:σ ⊕ ρ} {d:σ} {d2:ρ} {k:σ->Fr α} {r:ρ->Fr α} (hp:p) (hq:q) (hk:∀ s,(k s).ok) (hr:∀ y,(r y).ok):(iY p q g d d2 k r).ok:=⟨hp,hq,λ_=>hk _,λ_=>hr _⟩
def HL (x:ag [.d i64,.d aK]):Fr (aa [i64]):=
 cI (InK (((List.length x.2.1):Int)) 0 (List.length x.2.1)) (qup (((List.length x.2.1):Int),x.2.1) x.1) (qmh (((List.length x.2.1):Int),x.2.1) x.1) (λs0=>Jv (if s0<0 then 0 else s0,()))
def qir:af prog 129 ⟨[.d i64,.d aK],[i64],λxs=>(HL xs).get,λxs=>[(HL xs).ok]⟩:=
 cf aH (Λ:=(λ_=>zd0 dB.Γ)) (fn:=f129) (aW [.d i64,.d aK]) (by kernel_rfl) (λc E hc=>ea hc (by kernel_rfl) (b:=au f129 0) (by kernel_rfl) (ae.han aH rfl qry)) (λx=>by kernel_rfl)
def tA:Ct:=⟨[.d i64,.d aK],[i64],λx=>(HL x).get,λ_=>[]⟩
def O1:af prog 129 tA:=bW qir _ (λx hw _=>nK (gt hw.2.1.1) (by refine uP (λ_ _ _=>?_) _ _ _; exact⟨uT,uT⟩) (λ_=>uT))
noncomputable def Y4:Cx:=cx [(129,tA),(96,iC)] []
def Ml:CxOK prog Y4:=aP aG ⟨O1,wL,uT⟩ trivial
def B6 (x:ag [.d ak,.d i64]):Fr (aa [i64]):=
 Jv ((tA.f (I6.wrap (x.2.1-x.1.2.2.2.1),[x.1.2.1],())).1,())
def qiq:af prog 127 ⟨[.d ak,.d i64],[i64],λxs=>(B6 xs).get,λxs=>[(B6 xs).ok]⟩:=
 cf Ml (Λ:=bw) (fn:=f127) (aW [.d ak,.d i64]) (by kernel_rfl) (λc E _=>aY c 0) (λx=>by kernel_rfl)
def AJ:Ct:=⟨[.d ak,.d i64],[i64],λx=>(B6 x).get,λ_=>[]⟩
def qb7:af prog 127 AJ:=bW qiq _ (λx hw _=>uT)
def B7 (x:ag [.d ak,.d i64]):Fr (aa [i64]):=
 Jv ((iC.f (x.2.1,x.1.2.2.2.2.1,())).1,())
def qis:af prog 128 ⟨[.d ak,.d i64],[i64],λxs=>(B7 xs).get,λxs=>[(B7 xs).ok]⟩:=
 cf Ml (Λ:=bw) (fn:=f128) (aW [.d ak,.d i64]) (by kernel_rfl) (λc E _=>aY c 0) (λx=>by kernel_rfl)
def AK:Ct:=⟨[.d ak,.d i64],[i64],λx=>(B7 x).get,λ_=>[]⟩
def qb8:af prog 128 AK:=bW qis _ (λx hw _=>uT)
abbrev vN:Ty:=.pair i64 .unit
noncomputable def ZY:FuncId->Option (Func×(Nat->St->Option Tr)):=cu [(159,(f159,bw))]
noncomputable def Y5:Cx:=cW [(154,ko),(160,mF)] [] (fU prog (cx [] []) ZY)
def Y6:CxOK prog Y5:=cZ aG ⟨z7,O2,uT⟩ trivial (gG (aP (cs:=[]) (ps:=[]) aG trivial trivial) (lk (by kernel_rfl) qe))
abbrev vr:Pt:=⟨58,1,⟨[(39,.d i64),(38,.d i64),(37,.d (.sl ay))],[.x 2 42 ah,.r 2 2 0,.o 7 3 i64,.x 35 313 vN,.r 8 35 1000000159]⟩,⟨[],[.o 7 3 i64]⟩,⟨[],[]⟩⟩
def DW (k:Int×(List ay.den)×ah.den) (b:Prop) (i:Int) (e:ay.den) (s:(List Int)×vN.den):Fr ((List Int)×vN.den):=
 Jd b (Jb ((ko.f (k.2.2,e,())).1) (Jd (0<=i/\i<(s.1.length:Int)) (Jd (Int.toNat i<s.1.length) (Jv (s.1.set (Int.toNat i) (if s.2.1<(mF.f (k.2.2,e.2.2.2.2.1,())).1 then s.2.1 else (mF.f (k.2.2,e.2.2.2.2.1,())).1),I6.wrap (s.2.1-if s.2.1<(mF.f (k.2.2,e.2.2.2.2.1,())).1 then s.2.1 else (mF.f (k.2.2,e.2.2.2.2.1,())).1),())))) (Jv (s.1,s.2.1,())))
def Nf:vr.M.X->Fr vr.Out:=FG (λx=>(x.1.1,(x.1.2.1,x.1.2.2.1,x.2.1),(x.2.2.1,x.2.2.2.1))) (λk=>k.1) (λk=>k.2.1) DW (λk s=>((),s.1,()))
def qsf:ae prog (.loop (au f112 0)) vr.M vr Nf:=
 cN Y6 (λi k s=>((i,k.1,k.2.1,()),k.2.2,s.1,s.2,())) ay.dflt
def QZ:=λk s=>bO (DW k True) 0 k.2.1 s
def Tz:=λk s=>bM (DW k True) 0 k.2.1 s
def zd8 (Γ:Gm):St->Option Tr:=vr.han Γ vr.M Nf
def qnh:af prog 153 (eE ay):=
 um (cS (fn:=f153) aH (uE ay (ae.of_run aH (bs:=0) rfl rfl rfl (λ_=>aY _ 0) (λx=>by kernel_rfl))) (ps:=[.d (.sl ay),hZ ay]) (rs:=[i64]) (fr:=oQ ay))
noncomputable def Yq:Cx:=cx [(153,eE ay)] []
def Yr:CxOK prog Yq:=aP aG ⟨qnh,uT⟩ trivial
def NF:af prog 105 (fA ay):=
 conv (aS Yr f105 (fr:=λx=>Jv (decide (ii (λn=>(x.2.1 (n,())).1) x.1>=0),())) (ps:=[.d (.sl ay),hZ ay]) (rs:=[.bool])) _ _
  (λ_ _ x _ _ _=>⟨uT,ufn (Cl _ x.1) rfl⟩)
def qni:af prog 59 (eE bR):=
 um (cS (fn:=f59) aH (uE bR (ae.of_run aH (bs:=0) rfl rfl rfl (λ_=>aY _ 0) (λx=>by kernel_rfl))) (ps:=[.d (.sl bR),hZ bR]) (rs:=[i64]) (fr:=oQ bR))
noncomputable def Ys:Cx:=cx [(59,eE bR)] []
def Yt:CxOK prog Ys:=aP aG ⟨qni,uT⟩ trivial
def qap:af prog 34 (fA bR):=
 conv (aS Yt f34 (fr:=λx=>Jv (decide (ii (λn=>(x.2.1 (n,())).1) x.1>=0),())) (ps:=[.d (.sl bR),hZ bR]) (rs:=[.bool])) _ _
  (λ_ _ x _ _ _=>⟨uT,ufn (Cl _ x.1) rfl⟩)
def qng:af prog 73 (eE bi):=
 um (cS (fn:=f73) aH (uE bi (ae.of_run aH (bs:=0) rfl rfl rfl (λ_=>aY _ 0) (λx=>by kernel_rfl))) (ps:=[.d (.sl bi),hZ bi]) (rs:=[i64]) (fr:=oQ bi))
noncomputable def Y7:Cx:=cx [(103,lx)] []
def Y8:CxOK prog Y7:=aP aG ⟨yK,uT⟩ trivial
def B9 (x:ag [.d ay]):Fr (aa [.bool]):=
 Jv (!(lx.f (x.1,())).1,())
def qi4:af prog 157 ⟨[.d ay],[.bool],λxs=>(B9 xs).get,λxs=>[(B9 xs).ok]⟩:=
 cf Y8 (Λ:=bw) (fn:=f157) (aW [.d ay]) (by kernel_rfl) (λc E _=>aY c 0) (λx=>by kernel_rfl)
def AM:Ct:=⟨[.d ay],[.bool],λx=>(B9 x).get,λ_=>[]⟩
def qcb:af prog 157 AM:=bW qi4 _ (λx hw _=>uT)
noncomputable def Mm:Cx:=cx [(55,iD),(105,fA ay),(157,AM),(158,tB)] []
def Mn:CxOK prog Mm:=aP aG ⟨vF,NF,qcb,O3,uT⟩ trivial
def xx (x:ag [.d ah,.d (.sl ay)]):Fr (aa [aK,i64]):=
 Jd ((bif !(iD.f (x.1,())).1 then true else x.1.2.1 != 2)=false->∀ (x:aa [ay]),fi [ay] x->av (AM.ok (x.1,()))) (Jb (bif bif !(iD.f (x.1,())).1 then true else x.1.2.1 != 2 then true else ((fA ay).f (x.2.1,λx=>AM.f (x.1,()),())).1) (Jv ([],1,())) (Jb (decide (((List.length x.2.1):Int)>2000)) (Jv ([],2,())) (Jd (0<=((List.length x.2.1):Int)/\((List.length x.2.1):Int)<=((List.length x.2.1):Int)/\((List.length x.2.1):Int)<=(maxLen:Int)/\((List.length x.2.1):Int)*(8:Int)<=140737488355328) (cI (InK (((List.length x.2.1):Int)) 0 (List.length x.2.1)) (Tz (((List.length x.2.1):Int),x.2.1,x.1) (List.replicate (((List.length x.2.1):Int)).toNat 0,(tB.f (x.1,())).1,())) (QZ (((List.length x.2.1):Int),x.2.1,x.1) (List.replicate (((List.length x.2.1):Int)).toNat 0,(tB.f (x.1,())).1,())) (λs0=>Jv (s0.1,0,()))))))
def qi5:af prog 112 ⟨[.d ah,.d (.sl ay)],[aK,i64],λxs=>(xx xs).get,λxs=>[(xx xs).ok]⟩:=
 cf Mn (Λ:=(λ_=>zd8 Mm.Γ)) (fn:=f112) (aW [.d ah,.d (.sl ay)]) (by kernel_rfl) (λc E hc=>ea hc (by kernel_rfl) (b:=au f112 0) (by kernel_rfl) (ae.han Mn rfl qsf)) (λx=>by kernel_rfl)
def Sr (h:decide ((n:Int)>2000)=false):n<=2000:=by
 have:=ucf h;omega
def lK {l:List α} (hi:i<n) (hs:l.length=n):(0<=(i:Int)/\(i:Int)<(l.length:Int))/\Int.toNat (i:Int)<l.length:=by
 rw[hs,ucy];exact⟨⟨ub2 _,Int.ofNat_lt.2 hi⟩,hi⟩
def eD {l:List α} {e:α} (h:l[i]? = some e):i<l.length:=(uak.1 h).1
def qqa (t:ah.den) (l:List ay.den) (s:List Int×vN.den) (hs:s.1.length=l.length) :
  Tz ((l.length:Int),l,t) s/\(QZ ((l.length:Int),l,t) s).1.length=l.length:=
 dk (step:=DW ((l.length:Int),l,t) True) (λ_ (s:List Int×vN.den)=>s.1.length=l.length) l (λi e s he hs=>by
  obtain⟨h1,h2⟩:=lK (eD he) hs;exact⟨uT,λ_=>⟨h1,h2,(show(List.set _ _ _).length=_ by rw[udk]; exact hs)⟩,λ_=>hs⟩) s hs
def Sq (t:ah.den) (l:List ay.den):(xx (t,l,())).satP (λy=>y.1=[]\/y.1.length=l.length):=by
 unfold xx;refine⟨λ_ _ _=>uT,λ_=>.inl rfl,λ_=>⟨λ_=>.inl rfl,λh=>?_⟩⟩;have hl:l.length<=2000:=Sr h;exact⟨uH (uek hl (by decide)),fz (A:=λ(s:List Int×vN.den)=>s.1.length=l.length) (dI (uek hl (by decide))) (qqa t l _ (by
  show(List.replicate _ _).length=_;rw[List.length_replicate,ucy])) (λs hs=>.inr hs)⟩
def xf:Ct:=⟨[.d ah,.d (.sl ay)],[aK,i64],λx=>(xx x).get,λ_=>[]⟩
def qcc:af prog 112 xf:=bW qi5 _ (λx _ _=>(cO (Sq x.1 x.2.1)).1)
def qqb (t:ah.den) (l:List ay.den):(xf.f (t,l,())).1=[]\/(xf.f (t,l,())).1.length=l.length:=(cO (Sq t l)).2
noncomputable def Mo:Cx:=l8 [(154,ko)] [] [(1000000000000+120,.rw 0 3)] (λ_ _ _ _=>none)
def EJ:CxOK prog Mo:=mI (cs:=[(154,ko)]) (ps:=[]) (rs:=[(1000000000000+120,.rw 0 3)]) aG ⟨z7,uT⟩ trivial ⟨uT,uT⟩ (λ_ _ _ _ _ h=>(nomatch h))
abbrev J8:Ty:=.pair i64 i64
abbrev vn:Pt:=⟨57,0,⟨[(13,.d i64),(12,.d i64),(11,.d (.sl ay))],[.x 2 42 ah,.r 2 2 0,.o 5 (ed 120 0 3) aK,.o 6 dL J8]⟩,⟨[],[.o 5 (ed 120 0 3) aK]⟩,⟨[],[]⟩⟩
def DS (k:Int×(List ay.den)×ah.den) (b:Prop) (i:Int) (e:ay.den) (s:(List (List Int))×(List J8.den)):Fr ((List (List Int))×(List J8.den)):=
 let g:=(s.1.length:Int);let c:=ip s.2 e.2.1 0-1;let a:=I6.wrap c;let d:=s.1.getD a.toNat aK.dflt;Jd b (Jb (!(ko.f (k.2.2,e,())).1) (Jv (s.1,s.2)) (Jb (bif e.2.1 != 0 then decide (ip s.2 e.2.1 0>0) else false) (Jd (0<=I6.wrap c/\I6.wrap c<g) (Jd (a.toNat<s.1.length) (Jd (List.length d + [i].length<=maxLen/\(List.length d + [i].length)*8<=140737488355328) (Jd (0<=I6.wrap c/\I6.wrap c<g) (Jd (a.toNat<s.1.length/\a.toNat=a.toNat) (Jv (s.1.set a.toNat (s.1.getD a.toNat aK.dflt++[i]),s.2))))))) (Jd (s.1.length + [[i]].length<=maxLen/\(s.1.length + [[i]].length)*24<=140737488355328) (Jd (s.2.length<maxLen) (Jv (s.1++[[i]],ec s.2 e.2.1 ((s.1++[[i]]).length:Int)))))))
def MX:vn.M.X->Fr vn.Out:=FG (λx=>(x.1.1,(x.1.2.1,x.1.2.2.1,x.2.1),(x.2.2.1,x.2.2.2.1))) (λk=>k.1) (λk=>k.2.1) DS (λk s=>((),s.1,()))
def qr7:ae prog (.loop (au f161 0)) vn.M vn MX:=
 cN EJ (λi k s=>((i,k.1,k.2.1,()),k.2.2,s.1,s.2,())) ay.dflt
def QW:=λk s=>bO (DS k True) 0 k.2.1 s
def Tu:=λk s=>bM (DS k True) 0 k.2.1 s
def zd4 (Γ:Gm):St->Option Tr:=vn.han Γ vn.M MX
def HN (x:ag [.d ah,.d (.sl ay)]):Fr (aa [.sl aK]):=
 cI (InK (((List.length x.2.1):Int)) 0 (List.length x.2.1)) (Tu (((List.length x.2.1):Int),x.2.1,x.1) ([],[])) (QW (((List.length x.2.1):Int),x.2.1,x.1) ([],[])) (λs0=>Jv (s0.1,()))
def qiv:af prog 161 ⟨[.d ah,.d (.sl ay)],[.sl aK],λxs=>(HN xs).get,λxs=>[(HN xs).ok]⟩:=
 cf EJ (Λ:=(λ_=>zd4 Mo.Γ)) (fn:=f161) (aW [.d ah,.d (.sl ay)]) (by kernel_rfl) (λc E hc=>ea hc (by kernel_rfl) (b:=au f161 0) (by kernel_rfl) (ae.han EJ rfl qr7)) (λx=>by kernel_rfl)
def qt0 {l:List (Int×Int)} {n:Int}:∀ p∈ec l n y,p∈l\/p=(n,y):=by
 induction l with
 |nil=>intro p hp; exact .inr (ucd.1 hp)
 |cons x r ih=>
  intro p hp;unfold ec at hp;cases hx:x.1==n with
  |true=>
   rw[hx] at hp;rcases uee.1 hp with h|h
   ·exact .inr h
   ·exact .inl (ubh _ h)
  |false=>
   rw[hx] at hp;rcases uee.1 hp with h|h
   ·exact .inl (h ▸ uca)
   ·rcases ih p h with h|h
    ·exact .inl (ubh _ h)
    ·exact .inr h
def qtz {l:List (Int×Int)} {n:Int}:(ec l n y).length<=l.length+1:=by
 induction l with
 |nil=>exact ue4 _
 |cons x r ih=>
  unfold ec;cases hx:x.1==n with
  |true=>exact Nat.le_succ _
  |false=>exact Nat.succ_le_succ ih
def qtw {l:List (Int×Int)} {n:Int} (h:ip l n 0>0):∃ p∈l,p.2=ip l n 0:=by
 unfold ip at h |-;split at h
 ·rename_i x hx;exact⟨x,List.mem_of_find?_eq_some hx,rfl⟩
 ·exact absurd h (by decide)
structure EvI (n i:Nat) (s:List (List Int)×List (Int×Int)):Prop where
 len:s.1.length<=i
 at_:∀ g∈s.1,g.length<=i/\∀ k∈g,0<=k/\k<(n:Int)
 mlen:s.2.length<=i
 map:∀ p∈s.2,1<=p.2/\p.2<=(s.1.length:Int)
def EvI.up {s:List (List Int)×List (Int×Int)} (h:EvI n i s):EvI n (i+1) s:=
 ⟨Nat.le_succ_of_le h.len,λg hg=>⟨Nat.le_succ_of_le (h.at_ g hg).1,(h.at_ g hg).2⟩,Nat.le_succ_of_le h.mlen,h.map⟩
def EvI.put {s:List (List Int)×List (Int×Int)} (h:EvI n i s) (hi:i<n) (hj:j<s.1.length):EvI n (i+1) (s.1.set j (s.1.getD j []++[(i:Int)]),s.2):=by
 have hg:s.1.getD j []∈s.1:=by
  rw[uah,uap hj];exact udf hj
 refine⟨?_,λg hgm=>?_,Nat.le_succ_of_le h.mlen,λp hp=>?_⟩
 ·show(List.set _ _ _).length<=_;rw[udk];exact Nat.le_succ_of_le h.len
 ·rcases uao hgm with h1|h1
  ·exact(h.up.at_ g h1)
  ·subst h1;obtain⟨h2,h3⟩:=h.at_ _ hg;refine⟨?_,λk hk=>?_⟩
   ·rw[ub4];exact Nat.succ_le_succ h2
   ·rcases udo.1 hk with h4|h4
    ·exact h3 k h4
    ·rw[ucd.1 h4];omega
 ·show _/\_<=((List.set _ _ _).length:Int);rw[udk];exact h.map p hp
def EvI.new {s:List (List Int)×List (Int×Int)} {m:Int} (h:EvI n i s) (hi:i<n):EvI n (i+1) (s.1++[[(i:Int)]],ec s.2 m ((s.1++[[(i:Int)]]).length:Int)):=by
 have hl:(s.1++[[(i:Int)]]).length=s.1.length+1:=by rw[ub4]; rfl
 refine⟨?_,λg hgm=>?_,uek qtz (Nat.succ_le_succ h.mlen),λp hp=>?_⟩
 ·show(s.1++[[(i:Int)]]).length<=_;rw[hl];exact Nat.succ_le_succ h.len
 ·rcases udo.1 hgm with h1|h1
  ·exact h.up.at_ g h1
  ·rw[ucd.1 h1];refine⟨Nat.succ_le_succ (ufa _),λk hk=>?_⟩;rw[ucd.1 hk];omega
 ·show _/\_<=((s.1++[[(i:Int)]]).length:Int);rcases qt0 p hp with h1|h1
  ·have:=h.map p h1;rw[hl];omega
  ·rw[h1,hl];omega
def HD (t:ah.den) (l:List ay.den) (hn:l.length<=1000000) :
  Tu ((l.length:Int),l,t) ([],[])/\EvI l.length l.length (QW ((l.length:Int),l,t) ([],[])):=by
 have hm:=ew;refine dk (step:=DS ((l.length:Int),l,t) True) (EvI l.length) l (λi e s he hs=>?_) _ ⟨ue4 _,λ_ h=>(nomatch h),ue4 _,λ_ h=>(nomatch h)⟩;have hi:=eD he;refine⟨uT,λ_=>hs.up,λ_=>⟨λhc=>?_,λ_=>⟨?_,?_,hs.new hi⟩⟩⟩
 ·have hc':ip s.2 e.2.1 0>0:=by
   have hc:(bif e.2.1 != 0 then decide (ip s.2 e.2.1 0>0) else false)=true:=hc;cases hb:(e.2.1 != 0) with
   |true=>rw[hb] at hc; exact ucv hc
   |false=>rw[hb] at hc; cases hc
  obtain⟨p,hp,hpe⟩:=qtw hc';have hp2:=hs.map p hp;rw[hpe] at hp2;have hl:=hs.len;generalize ip s.2 e.2.1 0=v at hc' hp2;change Int at v;have hw:I6.wrap (v-1)=v-1:=cz (by omega);rw[hw];have hv1:1<=v:=hp2.1;have hv2:v<=(s.1.length:Int):=hp2.2;have hj:(v-1).toNat<s.1.length:=by omega
  have hg:(s.1.getD (v-1).toNat []).length<=i:=by
   have:s.1.getD (v-1).toNat []∈s.1:=by
    rw[uah,uap hj];exact udf hj
   exact(hs.at_ _ this).1
  have hj2:0<=v-1/\v-1<(s.1.length:Int):=⟨by omega,by omega⟩;refine⟨hj2,hj,?_,hj2,⟨hj,rfl⟩,hs.put hi hj⟩;show(s.1.getD (v-1).toNat []).length+1<=maxLen/\((s.1.getD (v-1).toNat []).length+1)*8<=140737488355328;omega
 ·have hl:=hs.len;show s.1.length+1<=maxLen/\(s.1.length+1)*24<=140737488355328;omega
 ·have hl:=hs.mlen;show s.2.length<maxLen;omega
def AL:Ct:=⟨[.d ah,.d (.sl ay)],[.sl aK],λx=>(HN x).get,λx=>[(List.length (α:=ay.den) x.2.1)<=1000000]⟩
def qca:af prog 161 AL:=bW qiv _ (λx hw hok=>⟨gt hw.2.1.1,(HD x.1 x.2.1 hok).1,uT⟩)
def qg7 (t:ah.den) (l:List ay.den) (hn:l.length<=1000000):∀ g∈(AL.f (t,l,())).1,g.length<=l.length/\∀ k∈g,0<=k/\k<(l.length:Int):=(HD t l hn).2.at_
noncomputable def Y9:Cx:=cx [(103,lx)] []
def EL:CxOK prog Y9:=aP aG ⟨yK,uT⟩ trivial
abbrev vj:Pt:=⟨108,0,⟨[(31,.d i64),(30,.d i64),(29,.d (.sl ay)),(1,.d (.sl ay))],[.x 2 42 ah,.r 2 2 0]⟩,⟨[(1,.d (.sl ay))],[.x 2 42 ah,.r 2 2 0]⟩,⟨[(4,.d aK),(5,.d i64)],[]⟩⟩
def DP (k:Int×(List ay.den)×(List ay.den)×ah.den) (b:Prop) (i:Int) (e:ay.den) (s:Unit):Fr (Unit ⊕ vj.R.X):=
 Jd b (Jb (!(lx.f (e,())).1) (Jv (.inr (([],1,()),()))) (Jv (.inl ())))
def Z6:vj.M.X->Fr vj.Out:=FK (λx=>(x.1.1,(x.1.2.1,x.1.2.2.1,x.1.2.2.2.1,x.2.1),())) (λk=>k.1) (λk=>k.2.1) DP (λk s=>((k.2.2.1,()),k.2.2.2,())) (λ_ y=>Rd.back y) () (aW _,bN _)
def qr4:ae prog (.loop (au f113 0)) vj.M vj Z6:=
 lm EL (λi k s=>((i,k.1,k.2.1,k.2.2.1,()),k.2.2.2,())) ay.dflt
def qmj:=λk s=>da (DP k True) 0 k.2.1 s
def qur:=λk s=>eJ (DP k True) 0 k.2.1 s
abbrev vl:Pt:=⟨108,4,⟨[(57,.d i64),(56,.d i64),(55,.d aK),(1,.d (.sl ay)),(9,.d i64),(11,.d aK),(51,.d i64),(50,.d i64),(49,.d (.sl aK)),(13,.d i64)],[.x 2 42 ah,.r 2 2 0,.o 8 3 i64,.o 12 3 i64]⟩,⟨[(1,.d (.sl ay)),(9,.d i64),(11,.d aK),(51,.d i64),(50,.d i64),(49,.d (.sl aK)),(13,.d i64)],[.x 2 42 ah,.r 2 2 0,.o 8 3 i64,.o 12 3 i64]⟩,⟨[],[]⟩⟩
def DQ (k:Int×(List Int)×(List ay.den)×Int×(List Int)×Int×Int×(List (List Int))×ah.den×(List Int)) (b:Prop) (i:Int) (e:i64.den) (s:Int×(List Int)):Fr (Int×(List Int)):=
 let d:=((List.length k.2.2.1):Int);let a:=List.getD k.2.2.1 (Int.toNat e) ay.dflt;let c:=a.2.2.2.2.1;Jd b (Jd (0<=e/\e<d) (Jd (s.2.length + [c].length<=maxLen/\(s.2.length + [c].length)*8<=140737488355328) (Jd (0<=e/\e<d) (Jv (I6.wrap (s.1+c),s.2++[c])))))
noncomputable def R9:Code:=((Go.Ab.loopB (au f113 1) 0).getD .skip)
def MV:vl.M.X->Fr vl.Out:=FG (λx=>(x.1.1,(x.1.2.1,x.1.2.2.1,x.1.2.2.2.1,x.1.2.2.2.2.1,x.1.2.2.2.2.2.1,x.1.2.2.2.2.2.2.1,x.1.2.2.2.2.2.2.2.1,x.1.2.2.2.2.2.2.2.2.1,x.2.1,x.2.2.1),(x.1.2.2.2.2.2.2.2.2.2.1,x.2.2.2.1))) (λk=>k.1) (λk=>k.2.1) DQ (λk s=>((k.2.2.1,k.2.2.2.1,k.2.2.2.2.1,k.2.2.2.2.2.1,k.2.2.2.2.2.2.1,k.2.2.2.2.2.2.2.1,s.1,()),(k.2.2.2.2.2.2.2.2.1,k.2.2.2.2.2.2.2.2.2,s.2,())))
def qr5:ae prog (.loop R9) vl.M vl MV:=
 cN EL (λi k s=>((i,k.1,k.2.1,k.2.2.1,k.2.2.2.1,k.2.2.2.2.1,k.2.2.2.2.2.1,k.2.2.2.2.2.2.1,k.2.2.2.2.2.2.2.1,s.1,()),k.2.2.2.2.2.2.2.2.1,k.2.2.2.2.2.2.2.2.2,s.2,())) i64.dflt
def QU:=λk s=>bO (DQ k True) 0 k.2.1 s
def Ts:=λk s=>bM (DQ k True) 0 k.2.1 s
def zd2 (Γ:Gm):St->Option Tr:=vl.han Γ vl.M MV
abbrev vm:Pt:=⟨108,6,⟨[(93,.d i64),(92,.d i64),(91,.d aK),(1,.d (.sl ay)),(9,.d i64),(11,.d aK),(51,.d i64),(50,.d i64),(49,.d (.sl aK))],[.x 2 42 ah,.r 2 2 0,.o 8 3 i64]⟩,⟨[(1,.d (.sl ay)),(9,.d i64),(51,.d i64),(50,.d i64),(49,.d (.sl aK))],[.x 2 42 ah,.r 2 2 0,.o 8 3 i64]⟩,⟨[],[]⟩⟩
def DR (k:Int×(List Int)×(List ay.den)×Int×(List Int)×Int×Int×(List (List Int))×ah.den) (b:Prop) (i:Int) (e:i64.den) (s:(List Int)):Fr ((List Int)):=
 let d:=Int.toNat i;let c:=k.2.2.2.2.1;let a:=List.getD c d i64.dflt;Jd b (Jd (0<=i/\i<((List.length c):Int)) (Jd (0<=List.getD c d i64.dflt/\List.getD c d i64.dflt<(s.length:Int)) (Jd (Int.toNat a<s.length) (Jv (s.set (Int.toNat a) e)))))
noncomputable def RA:Code:=((Go.Ab.loopB (au f113 1) 1).getD .skip)
def MW:vm.M.X->Fr vm.Out:=FG (λx=>(x.1.1,(x.1.2.1,x.1.2.2.1,x.1.2.2.2.1,x.1.2.2.2.2.1,x.1.2.2.2.2.2.1,x.1.2.2.2.2.2.2.1,x.1.2.2.2.2.2.2.2.1,x.1.2.2.2.2.2.2.2.2.1,x.2.1),x.2.2.1)) (λk=>k.1) (λk=>k.2.1) DR (λk s=>((k.2.2.1,k.2.2.2.1,(k.2.2.2.2.2.1,k.2.2.2.2.2.2.1,k.2.2.2.2.2.2.2.1,())),(k.2.2.2.2.2.2.2.2,s,())))
def qr6:ae prog (.loop RA) vm.M vm MW:=
 cN EL (λi k s=>((i,k.1,k.2.1,k.2.2.1,k.2.2.2.1,k.2.2.2.2.1,k.2.2.2.2.2.1,k.2.2.2.2.2.2.1,k.2.2.2.2.2.2.2.1,()),k.2.2.2.2.2.2.2.2,s,())) i64.dflt
def QV:=λk s=>bO (DR k True) 0 k.2.1 s
def Tt:=λk s=>bM (DR k True) 0 k.2.1 s
def zd3 (Γ:Gm):St->Option Tr:=vm.han Γ vm.M MW
noncomputable def EM:Cx:=cx [(55,iD),(103,lx),(160,mF),(158,tB),(162,wW),(161,AL)] []
def zO:CxOK prog EM:=aP aG ⟨vF,yK,O2,O3,zak,qca,uT⟩ trivial
abbrev Di:Pt:=⟨108,2,⟨[(51,.d i64),(50,.d i64),(49,.d (.sl aK)),(1,.d (.sl ay)),(9,.d i64)],[.x 2 42 ah,.r 2 2 0,.o 8 3 i64]⟩,⟨[],[.o 8 3 i64]⟩,⟨[],[]⟩⟩
def Cy (k:Int×(List (List Int))×(List ay.den)×ah.den) (i:Int) (e:List Int) (s:Int×List Int):Int×(List Int)×(List ay.den)×Int×(List Int)×Int×Int×(List (List Int))×ah.den×(List Int):=((e.length:Int),e,k.2.2.1,s.1,e,i,k.1,k.2.1,k.2.2.2,s.2)
def Aq (t:ah.den) (left sum:Int):Int:=if (mF.f (t,sum,())).1<left then (mF.f (t,sum,())).1 else left
def tK (t:ah.den) (left:Int) (r:Int×List Int):List Int:=(wW.f (Aq t left r.1,r.2,())).1
def Jh (k:Int×(List (List Int))×(List ay.den)×ah.den) (i:Int) (e:List Int) (s:Int×List Int) (r:Int×List Int):Int×(List Int)×(List ay.den)×Int×(List Int)×Int×Int×(List (List Int))×ah.den:=
 (((tK k.2.2.2 s.1 r).length:Int),tK k.2.2.2 s.1 r,k.2.2.1,I6.wrap (s.1-Aq k.2.2.2 s.1 r.1),e,i,k.1,k.2.1,k.2.2.2)
def DO (k:Int×(List (List Int))×(List ay.den)×ah.den) (b:Prop) (i:Int) (e:aK.den) (s:Int×List Int):Fr (Int×List Int):=
 Jd b (cI (InK (List.length e:Int) 0 (List.length e)) (Ts (Cy k i e s) (0,[])) (QU (Cy k i e s) (0,[])) (λr=>
  cI (InK ((tK k.2.2.2 s.1 r).length:Int) 0 (tK k.2.2.2 s.1 r).length) (Tt (Jh k i e s r) s.2) (QV (Jh k i e s r) s.2) (λo=>Jv (I6.wrap (s.1-Aq k.2.2.2 s.1 r.1),o))))
def Z5:Di.M.X->Fr Di.Out:=FG (λx=>(x.1.1,(x.1.2.1,x.1.2.2.1,x.1.2.2.2.1,x.2.1),(x.1.2.2.2.2.1,x.2.2.1))) (λk=>k.1) (λk=>k.2.1) DO (λk s=>((),s.2,()))
def qr3:ae prog (.loop (au f113 1)) Di.M Di Z5:=
 cN zO (λi k s=>((i,k.1,k.2.1,k.2.2.1,s.1,()),k.2.2.2,s.2,())) aK.dflt (Λ:=(λk=>if k=0 then zd2 EM.Γ else zd3 EM.Γ)) (hΛ:=λ_=>Sm (by kernel_rfl) (b0:=R9) (b1:=RA) (by kernel_rfl) (by kernel_rfl) (ae.han zO rfl qr5) (ae.han zO rfl qr6))
def QT:=λk s=>bO (DO k True) 0 k.2.1 s
def Tq:=λk s=>bM (DO k True) 0 k.2.1 s
def RY (t:ah.den) (l:List ay.den):Int×(List ay.den)×(List ay.den)×ah.den:=((l.length:Int),l,l,t)
def tT (t:ah.den) (l:List ay.den):List (List Int):=(AL.f (t,l,())).1
def B8 (x:ag [.d ah,.d (.sl ay)]):Fr (aa [aK,i64]):=
 Jb (bif x.1.2.1 != 3 then true else !(iD.f (x.1,())).1) (Jv ([],1,()))
  (iY (InK (List.length x.2.1:Int) 0 (List.length x.2.1)) (qur (RY x.1 x.2.1) ()) (qmj (RY x.1 x.2.1) ()) () (aW _,bN _) (λ_=>
   Jb (decide ((List.length x.2.1:Int)>2000)) (Jv ([],2,()))
    (Jd (0<=((List.length x.2.1):Int)/\((List.length x.2.1):Int)<=((List.length x.2.1):Int)/\((List.length x.2.1):Int)<=(maxLen:Int)/\((List.length x.2.1):Int)*(8:Int)<=140737488355328)
     (Jd (List.length x.2.1<=1000000)
      (cI (InK ((tT x.1 x.2.1).length:Int) 0 (tT x.1 x.2.1).length) (Tq (((tT x.1 x.2.1).length:Int),tT x.1 x.2.1,x.2.1,x.1) ((tB.f (x.1,())).1,List.replicate (((List.length x.2.1):Int)).toNat 0)) (QT (((tT x.1 x.2.1).length:Int),tT x.1 x.2.1,x.2.1,x.1) ((tB.f (x.1,())).1,List.replicate (((List.length x.2.1):Int)).toNat 0))
       (λs=>Jv (s.2,0,())))))) (λy=>Jv y.1))
def qiu:af prog 113 (bg [.d ah,.d (.sl ay)] [aK,i64] B8):=
 oP zO qr4 qr3 (fn:=f113)
def qgt (k:Int×(List (List Int))×(List ay.den)×ah.den) (i:Int) (e:List Int) (s:Int×List Int) (he:e.length<=100000/\∀ x∈e,0<=x/\x<(k.2.2.1.length:Int)) :
  Ts (Cy k i e s) (0,[])/\(QU (Cy k i e s) (0,[])).2.length=e.length:=
 dk (step:=DQ (Cy k i e s) True) (λj (r:Int×List Int)=>r.2.length=j) e (λj x r hx hr=>by
  have hj:=eD hx;have hm:=ew;have hin:=he.2 x (ube hx);have hj':r.2.length<=99999:=by rw[hr]; omega
  refine⟨uT,hin,?_,hin,?_⟩
  ·show r.2.length+1<=maxLen/\(r.2.length+1)*8<=140737488355328;omega
  ·show(_++[_]).length=_;rw[ub4];exact ufm (· + 1) hr) _ rfl
def qgu (k:Int×(List Int)×(List ay.den)×Int×(List Int)×Int×Int×(List (List Int))×ah.den) (o:List Int) (h1:k.2.1.length<=k.2.2.2.2.1.length) (h2:∀ x∈k.2.2.2.2.1,0<=x/\x<(o.length:Int)) :
  Tt k o/\(QV k o).length=o.length:=
 dk (step:=DR k True) (λ_ (r:List Int)=>r.length=o.length) k.2.1 (λj x r hx hr=>by
  have hj:j<k.2.2.2.2.1.length:=ub9 (eD hx) h1;have hin:0<=List.getD k.2.2.2.2.1 (Int.toNat (j:Int)) i64.dflt/\List.getD k.2.2.2.2.1 (Int.toNat (j:Int)) i64.dflt<(r.length:Int):=by
   rw[ucy,uah,uap hj,hr];exact h2 _ (udf hj)
  refine⟨uT,(lK hj rfl).1,hin,?_,?_⟩
  ·generalize List.getD k.2.2.2.2.1 (Int.toNat (j:Int)) i64.dflt=v at hin;change Int at v;omega
  ·show(List.set _ _ _).length=_;rw[udk];exact hr) _ rfl
def qgw (k:Int×(List (List Int))×(List ay.den)×ah.den) (s:Int×List Int) (hs:s.2.length=k.2.2.1.length) (hg:∀ g∈k.2.1,g.length<=100000/\∀ x∈g,0<=x/\x<(k.2.2.1.length:Int)) :
  Tq k s/\(QT k s).2.length=k.2.2.1.length:=
 dk (step:=DO k True) (λ_ (r:Int×List Int)=>r.2.length=k.2.2.1.length) k.2.1 (λj e r he hr=>by
  have hge:=hg e (ube he);refine⟨uT,fz (A:=λ(q:Int×List Int)=>q.2.length=List.length e) (dI (uek hge.1 (by decide))) (qgt k j e r hge) (λq hq=>?_)⟩;have hd:(tK k.2.2.2 r.1 q).length<=List.length e:=by
   rcases zaj (Aq k.2.2.2 r.1 q.1) q.2 with h|h
   ·have:tK k.2.2.2 r.1 q=[]:=h;rw[this];exact ufa _
   ·exact Nat.le_of_eq (h.trans hq)
  exact fz (A:=λ(o:List Int)=>o.length=r.2.length) (dI (uek hd (uek hge.1 (by decide)))) (qgu (Jh k j e r q) r.2 hd (by rw[hr]; exact hge.2)) (λo ho=>ho.trans hr)) s hs
def PF (t:ah.den) (l:List ay.den) (hw:l.length<=maxLen):(B8 (t,l,())).satP (λy=>y.1=[]\/y.1.length=l.length):=by
 unfold B8;refine⟨λ_=>.inl rfl,λ_=>E3 (A:=λ_=>True) (B:=λy=>y.1.1=[]) (gt hw) (nm (step:=DP (RY t l) True) (λ_ _=>True) (λ(y:vj.R.X)=>y.1.1=[]) l (λ_ _ _ _ _=>⟨uT,λ_=>rfl,λ_=>uT⟩) () trivial) (λ_ _=>⟨λ_=>.inl rfl,λh=>?_⟩) (λy hy=>.inl hy)⟩;have hl:l.length<=2000:=Sr h;refine⟨uH (uek hl (by decide)),uek hl (by decide),?_⟩;have hn:l.length<=1000000:=uek hl (by decide);have hlen:(tT t l).length<=l.length:=(HD t l hn).2.len;refine fz (A:=λ(s:Int×List Int)=>s.2.length=l.length) (dI (uek hlen (uek hl (by decide)))) (qgw (((tT t l).length:Int),tT t l,l,t) _ ?_ (λg hg=>?_)) (λs hs=>.inr hs)
 ·show(List.replicate _ _).length=_;rw[List.length_replicate,ucy]
 ·obtain⟨h1,h2⟩:=qg7 t l hn g hg;exact⟨uek h1 (uek hl (by decide)),h2⟩
def xd:Ct:=⟨[.d ah,.d (.sl ay)],[aK,i64],λx=>(B8 x).get,λ_=>[]⟩
def qb9:af prog 113 xd:=bW qiu _ (λx hw _=>(cO (PF x.1 x.2.1 hw.2.1.1)).1)
def qg6 (t:ah.den) (l:List ay.den) (hw:l.length<=maxLen):(xd.f (t,l,())).1=[]\/(xd.f (t,l,())).1.length=l.length:=(cO (PF t l hw)).2
end Go.Proofs.YtmcjmjbeknbddaaGreat
