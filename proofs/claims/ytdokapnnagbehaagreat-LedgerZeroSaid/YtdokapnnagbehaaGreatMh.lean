/-
  Parts of the proof, one behind the other.
-/
import Derived.Test.YtdokapnnagbehaaGreatMg
import Derived.Tactics2
import Derived.Laws.Pointers
set_option linter.all false
set_option maxRecDepth 100000
set_option maxHeartbeats 4000000
open Option renaming some->U,none->V
open Bool renaming true->Z,false->Y
open Decidable renaming decide->J
open Go Go.RowKit
variable {T α σ ρ β:Type} {P:Program} {ad:Addr} {arr cs cur:Array Value} {f:FuncId} {x a y day:Int} {k:IntKind} {l:List Int} {xs vs news:List Value} {off i n b c d j B m len:Nat} {F F' K:Nat->Prop} {R g R':Nat->Value->Prop} {o:Oper} {p:Prop} {e ety t ty el:TypeId} {v u vx:Value} {w w' W' W:World}
namespace Go.Proofs.YtdokapnnagbehaaGreat
open Go Go.Ab Go.RowKit Go.Proofs Go.Shelf Tryz
open Go.Ab.Fr renaming val->Jv,need->Jd,br->Jb
section
attribute [local go_sem] Oper.semAt_some
def SU{v:Int}:iQ v=Z ↔ -4000000000000000000<=v/\v<=4000000000000000000:=by simp[iQ]
def K1:{l r:List Int} -> {d v:Int}->ga l r d v=Z->l.length=r.length->l.Pairwise (· < ·)/\(∀ x∈l,d<x/\x<=292194)/\∀ y∈r,iQ y=Z
 |[],[],_,_,_,_=>⟨List.Pairwise.nil,by simp,by simp⟩
 |[],_::_,_,_,_,j=>by simp at j
 |_::_,[],_,_,_,j=>by simp at j
 |a::l,b::r,d,v,h,j=>by
  simp only[ga,uda,uct]at h;obtain⟨⟨t,u,N,w⟩,C⟩:=h;obtain⟨F,q,H⟩:=K1 C (by simpa using j);refine⟨ub9.2 ⟨λx i=>(q x i).1,F⟩,λx i=>?_,λy m=>?_⟩;rcases uef.1 i with rfl|i
  exact⟨t,u⟩;exact⟨Int.lt_trans t (q x i).1,(q x i).2⟩;rcases uef.1 m with rfl|m
  exact w;exact H y m
def Kz{f:bm.den}(h:jU f=Z):f.1.length=f.2.1.length/\f.1.Pairwise (· < ·)/\(∀ x∈f.1,0<x/\x<=292194)/\∀ y∈f.2.1,-4000000000000000000<=y/\y<=4000000000000000000:=by
 simp only[jU,uda,uct]at h;obtain⟨i,j,m⟩:=K1 h.2 h.1;exact⟨h.1,i,j,λy q=>SU.1 (m y q)⟩
def Wv{f:bm.den}(h:∀ y∈f.2.1,-4000000000000000000<=y/\y<=4000000000000000000)(d:Int): -4000000000000000000<=dz f d/\dz f d<=4000000000000000000:=by
 unfold dz;split;omega;rename_i k _;rw[uah];cases i:f.2.1[k]? with
 |none=>simp
 |some y=>
  have:=h y (ubf i);simpa using this
def qm(x:Int×Int×Int):Prop:=1<=x.1/\x.1<x.2.1/\x.2.1<=292195 /\ -4000000000000000000<=x.2.2/\x.2.2<=4000000000000000000
def Da{f:bm.den}(h:∀ y∈f.2.1,-4000000000000000000<=y/\y<=4000000000000000000){e:Int}(q:e<=292195):(l:List Int)->(a:Int)->1<=a->a<e->∀ x∈eL f e l a,qm x
 |[],a,j,m,x,i=>by
  simp only[eL,uce]at i;subst i;exact⟨j,m,q,Wv h a⟩
 |d::l,a,j,m,x,i=>by
  unfold eL at i;split at i;exact Da h q l a j m x i;rename_i hc;rcases uef.1 i with rfl|i
  exact⟨j,by show a<d;omega,by show d<=292195;omega,Wv h a⟩;exact Da h q l d (by omega) (by omega) x i
abbrev jx:Type:={ x:Int×Int×Int // qm x }
def js(q:Int×Int)(x:Int×Int×Int):Option (Int×Int):=
 if max x.2.2 (-x.2.2)>(4000000000000000000-q.2)/(x.2.1-x.1)then V else U (q.1+(x.2.1-x.1)*x.2.2,q.2+(x.2.1-x.1)*max x.2.2 (-x.2.2))
def em:List (Int×Int×Int)->Int×Int->Option (Int×Int)
 |[],q=>U q
 |x::l,q=>(js q x).bind (em l)
def V5(l m:List (Int×Int×Int))(q:Int×Int):em (l++m) q=(em l q).bind (em m):=by
 induction l generalizing q with
 |nil=>rfl
 |cons x l i=>
  simp only[uc2,em];cases js q x with
  |none=>rfl
  |some j=>exact i j
def wD(q:Int×Int):Prop:=0<=q.2/\q.2<=4000000000000000000 /\ -q.2<=q.1/\q.1<=q.2
def V7{q j:Int×Int}{x:Int×Int×Int}(C:qm x)(h:js q x=U j)(hq:wD q):wD j/\(x.2.1-x.1)*max x.2.2 (-x.2.2)<=4000000000000000000-q.2/\0<=(x.2.1-x.1)*max x.2.2 (-x.2.2) /\ -((x.2.1-x.1)*max x.2.2 (-x.2.2))<=(x.2.1-x.1)*x.2.2/\(x.2.1-x.1)*x.2.2<=(x.2.1-x.1)*max x.2.2 (-x.2.2):=by
 obtain⟨P,Q,S,W,h5⟩:=C;obtain⟨a,b,v⟩:=x;obtain⟨s,t⟩:=q;obtain⟨F,H,N,O⟩:=hq;unfold js at h;split at h;cases h;rename_i hc;cases h;simp only at *;have w:0<b-a:=by omega
 have i:max v (-v)<=(4000000000000000000-t)/(b-a):=by omega
 have e1:(b-a)*max v (-v)<=4000000000000000000-t:=by
  have:=(Int.le_ediv_iff_mul_le w).1 i;rw[uex];exact this
 have e2:0<=(b-a)*max v (-v):=ud8 (by omega) (by omega);have m:(b-a)*v<=(b-a)*max v (-v):=Int.mul_le_mul_of_nonneg_left (by omega) (by omega);have u : -((b-a)*max v (-v))<=(b-a)*v:=by
  rw[<- Int.mul_neg];exact Int.mul_le_mul_of_nonneg_left (by omega) (by omega)
 refine⟨⟨?_,?_,?_,?_⟩,e1,e2,u,m⟩<;>simp only<;>omega
def eo(f:bm.den)(s:cn.den):Int×Int:=
 if jU f=Z/\dN s=Z then match em (eL f s.2.1 f.1 s.1) (0,0)with
  |some q=>(q.1,0)
  |none=>(0,5)
 else (0,1)
def AD:Ct:=⟨[.d bm,.d cn],[i64,i64],λx=>((eo x.1 x.2.1).1,(eo x.1 x.2.1).2,()),λ_=>[]⟩
def qwh(n:Nat)(A i:Option Addr)(t j l2 m:Nat)(q e1:Int)(w:World):
  CallsIn Fence.wide n prog 198 #[.agg #[.slice A t j,.slice i l2 m],.agg #[.int .i64 q,.int .i64 e1]] w λe w'=>
   e=.returned (.func (.func 217) #[] #[.pointer (U ⟨w.heap.size+1,0,V⟩),.pointer (U ⟨w.heap.size,0,V⟩)]) /\
   w'=(w.alloc (.cells #[.slice A t j,.slice i l2 m] 219)).alloc (.cells #[.int .i64 q,.int .i64 e1] 31):=by
 refine callsIn_of_wp func198 rfl trivial ?_ rfl;simp only[ntmps198,ucp,uc7,udi,Nat.reduceAdd,Nat.reduceSub,ubm,ubn,ucx,ubw,udj,uc2]
 gi_wp2
 go_ret
 exact⟨rfl,rfl⟩
def FM{ps:List PT}{g:ag ps->Bool}{ok:ag ps->List Prop}(h:af prog f ⟨ps,[.bool],λx=>(g x,()),ok⟩){xs:ag ps}(hb:∀ b,F b->b<w.heap.size)(t:cJ prog w F ps xs vs)(j:av (ok xs)):
  Calls prog f vs.toArray w λe w'=>e=.returned (.bool (g xs))/\Below w.heap.size w w':=by
 refine(h.2 w F xs vs hb t j).mono ?_;rintro e w' ⟨v,F',rfl,i,_,_,u⟩;have m:aE prog w' F' (λ_ _=>True) (dE .bool (g xs)) v:=fT u;have q:=m.2;exact⟨by rw[q],i⟩
structure Four (W:World) (z:Nat) (va vb x0 x1 x4 x5:Value):Prop where
 b0:W.heap[z]?= some (.cells #[va,vb] 219 (0,0))
 b1:W.heap[z+1]?= some (.cells #[x0,x1] 31 (0,0))
 b2:Boxed W (z+1+1) 3 x4
 b3:Boxed W (z+1+1+1) 47 x5
def Four.below{z:Nat}{i j x0 x1 x4 x5:Value}(h:Four W z i j x0 x1 x4 x5)(hb:Below m W W')(q:z+3<m):Four W' z i j x0 x1 x4 x5:=
 ⟨(hb.block _ (by omega)).trans h.b0,(hb.block _ (by omega)).trans h.b1,(hb.block _ (by omega)).trans h.b2,(hb.block _ (by omega)).trans h.b3⟩
def Four.cells{z:Nat}{i j x0 x1 x4 x5:Value}(h:Four W z i j x0 x1 x4 x5):
  W.cell? ⟨z,0,V⟩=U i/\W.cell? ⟨z,1,V⟩=U j/\W.cell? ⟨z+1,0,V⟩=U x0/\W.cell? ⟨z+1,1,V⟩=U x1 /\
   W.cell? ⟨z+1+1,0,V⟩=U x4/\W.frozen? ⟨z+1+1,0,V⟩=Y/\W.cell? ⟨z+1+1+1,0,V⟩=U x5/\W.frozen? ⟨z+1+1+1,0,V⟩=false:=
 ⟨aO h.b0 0,aO h.b0 1,aO h.b1 0,aO h.b1 1,h.b2.cell,h.b2.frozen,h.b3.cell,h.b3.frozen⟩
def za5 (f:bm.den) (A t:Option Addr) (N C l2 F:Nat) (m e1:Int) (w:World)
  (hR:∀ W,Below w.heap.size w W->Calls prog 196 #[.agg #[.slice A N C,.slice t l2 F]] W λe w'=>e=.returned (.bool (jU f))/\Below W.heap.size W w')
  (hF:∀ W,Calls prog 197 #[.agg #[.int .i64 m,.int .i64 e1]] W λe w'=>e=.returned (.bool (dN (m,e1,())))/\Below W.heap.size W w')
  (H:¬ (jU f=Z/\dN (m,e1,())=Z)) :
  CallsIn Fence.wide 8 prog 148 #[.agg #[.slice A N C,.slice t l2 F],.agg #[.int .i64 m,.int .i64 e1]] w λe w'=>e=.returned (.tuple #[.int .i64 0,.int .i64 1])/\Below w.heap.size w w':=by
 refine callsIn_of_wp func148 rfl trivial ?_ rfl;simp only[ntmps148,ucp,uc7,udi,Nat.reduceAdd,Nat.reduceSub,ubm,ubn,ucx,ubw,udj,uc2];generalize S:jU f=b1 at *;generalize j:dN (m,e1,())=b2 at *;obtain⟨i,hz,hq⟩:=zj8 [.cells #[.slice A N C,.slice t l2 F] 219,.cells #[.int .i64 m,.int .i64 e1] 31,.cells #[.int .i64 0] 3,.cells #[.int .i64 0] 47] w;simp only[als]at i hz hq;have Q:Four _ w.heap.size _ _ _ _ _ _:=⟨hq 0 _ rfl,hq 1 _ rfl,hq 2 _ rfl,hq 3 _ rfl⟩;have hz:=Nat.lt_of_lt_of_eq (Nat.lt_succ_self (w.heap.size+3)) hz.symm;have u:=Lib.hid Q;have q:=Lib.hid hz;clear hq;cases b1
 ·gi_wp2_with (refine⟨uT,?_⟩;gi_at_call 196;refine(callsIn_wide.2 (hR _ i)).mono ?_;rintro e w1 ⟨rfl,hb⟩;obtain⟨k0,k1,k2,k3,O,k5,P,k7⟩:=(u.out.below hb q.out).cells)
  refine⟨uT,?_⟩
  gi_wp2
  refine uey (by simp[results,results148,go_sem,O,P]) rfl ⟨rfl,?_⟩;exact(((i.trans (hb.mono (by simp;omega))).setCell (by simp;omega) _).setCell (by simp;omega) _)
 ·cases b2
  ·gi_wp2_with (first|(refine⟨uT,?_⟩;gi_at_call 196;refine(callsIn_wide.2 (hR _ i)).mono ?_;rintro e w1 ⟨rfl,hb⟩;obtain⟨k0,k1,k2,k3,O,k5,P,k7⟩:=(u.out.below hb q.out).cells)|(refine⟨uT,?_⟩;gi_at_call 197;refine(callsIn_wide.2 (hF _)).mono ?_;rintro e w2 ⟨rfl,j⟩;obtain⟨m0,m1,m2,m3,m4,m5,m6,m7⟩:=((u.out.below hb q.out).below j (uca q.out hb.size)).cells))
   refine uey (by simp[results,results148,go_sem,m4,m6]) rfl ⟨rfl,?_⟩;exact((((i.trans (hb.mono (by simp;omega))).trans (j.mono (uel (i.trans (hb.mono (by simp;omega))).size (ue6 _)))).setCell (by simp;omega) _).setCell (by simp;omega) _)
  exact absurd ⟨rfl,rfl⟩ H
def qwi(m:Nat)(hm:1<=m)(f:bm.den)(A S:Option Addr)(c1 l2 c2:Nat)(F e1:Int)(all:List jx)(N:all.map Subtype.val=eL f e1 f.1 F)(Q:f.1.length<=9223372036854775807)(he0 : -9223372036854775808<=F/\F<=9223372036854775807)(w:World)(u C:Nat)(t:World)(h0:Below w.heap.size w t)(O:t.heap[u]?= U (.cells #[.slice A f.1.length c1,.slice S l2 c2] 219 (0,0)))(P:t.heap[C]?= U (.cells #[.int .i64 F,.int .i64 e1] 31 (0,0)))(j:∀ W,Below w.heap.size w W->0<f.1.length->∃ b off,A=U ⟨b,off,V⟩/\b<w.heap.size/\∀ (i:Nat) (x:Int),f.1[i]?= U x->W.cell? ⟨b,off+i,V⟩=U (.int .i64 x) /\ -9223372036854775808<=x/\x<=9223372036854775807)(q:∀ W,Below w.heap.size w W->Ad f (.agg #[.slice A f.1.length c1,.slice S l2 c2]) W):
  SeqStopsK Fence.wide m prog 217 #[.pointer (U ⟨C,0,V⟩),.pointer (U ⟨u,0,V⟩)] (λx:jx=>TZ x.1) (cw w.heap.size u C) (λxs=>xs=all) (λpre=>pre <+: all) all.length t:=λl J Jx W hW hJ hJx hY hJ0=>by
 have g1:u<t.heap.size:=(uaf.1 O).1;have g2:C<t.heap.size:=(uaf.1 P).1;have hB:Below w.heap.size w W:=h0.trans (hW.mono h0.size);refine qwg Subtype.val all m hm l u C w.heap.size A c1 f.1 (.slice S l2 c2) ⟨_,_,_,rfl⟩ F e1 f Q he0 N J Jx W hJ hB.size hY (λW' hk=>?_) hJ0;have H:=hB.trans hk.1;exact⟨hk.2.1.trans ((hW.block _ g1).trans O),hk.2.2.trans ((hW.block _ g2).trans P),j W' H,q W' H⟩
def ZM(o:Option (Int×Int))(e:Ending):Prop:=match o with
 |some q=>e=.returned (.tuple #[.int .i64 q.1,.int .i64 0])
 |none=>e=.returned (.tuple #[.int .i64 0,.int .i64 5])
structure SumI (w:World) (z0 b4 b5 b6 b7:Nat) (pre:List jx) (W:World) (q:Int×Int):Prop where
 sum:em (pre.map Subtype.val) (0,0)=some q
 inv:wD q
 x6:Boxed W b6 3 (.int .i64 q.1)
 x7:Boxed W b7 3 (.int .i64 q.2)
 x4:Boxed W b4 3 (.int .i64 0)
 x5:Boxed W b5 47 (.int .i64 0)
 bel:Below w.heap.size w W
 sz:z0<=W.heap.size
structure SumX (w:World) (b4 b5:Nat) (c:Code) (pre:List jx) (W:World):Prop where
 ret:c=.ret
 sum:em (pre.map Subtype.val) (0,0)=none
 x4:Boxed W b4 3 (.int .i64 0)
 x5:Boxed W b5 47 (.int .i64 5)
 bel:Below w.heap.size w W
def iB{X j:World}{row:Option Nat}(h:Boxed X b t v)(hg:X.grownBy j row)(i:∀ r,row=U r->B<=r/\∃ o:Obj,X.heap[r]?= U o/\o.isCells=Y):Boxed j b t v:=
 boxed_own b t (λ(_:Unit)=>v) () X j row h hg (λr e=>(i r e).2)
def za0{H m t u C:Nat}(hB:w.heap.size<=B):OwnFrom B (λj W=>∃ q,SumI w H m t u C j W q):=λj X N row F hg i=>by
 obtain⟨q,h⟩:=F;exact⟨q,h.sum,h.inv,iB h.x6 hg i,iB h.x7 hg i,iB h.x4 hg i,iB h.x5 hg i,h.bel.grown hg h.bel.size (λk e=>uel hB (i k e).1),uel h.sz hg.size⟩
def za4{m q:Nat}(hB:w.heap.size<=B)(c:Code):OwnFrom B (λi W=>SumX w m q c i W):=λi X t row h hg j=>
 ⟨h.ret,h.sum,iB h.x4 hg j,iB h.x5 hg j,h.bel.grown hg h.bel.size (λk e=>uel hB (j k e).1)⟩
def N3(w0:Nat)(a:Int×Int×Int->Nat->Act)(x:jx)(j:Act)(W:World):Prop:=∃ i,w0<=i/\W.heap[i]?= U (.cells #[.int .i64 x.1.1,.int .i64 x.1.2.1] 31 (0,0))/\j=a x.1 i
def zaz{w0:Nat}{a:Int×Int×Int->Nat->Act}(x:jx)(q:Act):OwnFrom B (λ(_:Unit) W=>N3 w0 a x q W):=λ_ X F row C hg w=>by
 obtain⟨i,t,j,u⟩:=C;refine⟨i,t,(hg.block i (uaf.1 j).1 (λe=>?_)).trans j,u⟩;obtain⟨_,o,m,hc⟩:=w i e.symm;rw[j]at m;cases m;cases hc
def SM(v:Int):max v (-v)=if v < -v then -v else v:=by split<;>omega
def V9{i:List jx}{q:Int×Int}(h:em (i.map Subtype.val) (0,0)=U q)(x:jx):em ((i++[x]).map Subtype.val) (0,0)=js q x.1:=by
 rw[udt,V5,h];show(js q x.1).bind (em [])=_;cases js q x.1<;>rfl
def DD(W:World){k:Nat}(v:Value)(h:k≠b):(W.setCell ⟨b,0,V⟩ v).heap[k]?= W.heap[k]? := by
 by_cases i:k<W.heap.size;exact(grownBy_setCell' W b v).block k i (λe=>h (by cases e;rfl));rw[ua1 (by rw[ucf];omega),ua1 (by omega)]
def V4{N i j t u:Nat}{q:List jx}{s x0 x1 v:Int}(hi:SumI w N i j t u q W (s,a))(H:qm (x0,x1,v))(hc:(4000000000000000000-a)/(x1-x0)<if v < -v then -v else v)(m:i≠j)(C:w.heap.size<=i)(F:w.heap.size<=j):
  SumX w i j .ret (q++[⟨(x0,x1,v),H⟩]) ((W.setCell ⟨i,0,V⟩ (.int .i64 0)).setCell ⟨j,0,V⟩ (.int .i64 5)):=by
 refine⟨rfl,?_,(hi.x4.set _).other m _,(hi.x5.other (Ne.symm m) _).set _,(hi.bel.setCell C _).setCell F _⟩;rw[V9 hi.sum];unfold js;rw[if_pos];rw[SM];exact hc
def V3{z0 C F i j:Nat}{u:List jx}{s x0 x1 v m:Int}(hi:SumI w z0 C F i j u W (s,a))(hx:qm (x0,x1,v))(hc:(if v < -v then -v else v)<=(4000000000000000000-a)/(x1-x0))(hm:m=if v < -v then -v else v)(H:C≠i)(N:C≠j)(O:F≠i)(P:F≠j)(q:i≠j)(h6:w.heap.size<=i)(h7:w.heap.size<=j):
  SumI w z0 C F i j (u++[⟨(x0,x1,v),hx⟩]) ((W.setCell ⟨i,0,V⟩ (.int .i64 (wrap64 (s+wrap64 ((x1-x0)*v))))).setCell ⟨j,0,V⟩ (.int .i64 (wrap64 (a+wrap64 ((x1-x0)*m))))) (s+(x1-x0)*v,a+(x1-x0)*max v (-v)):=by
 have S:js (s,a) (x0,x1,v)=U (s+(x1-x0)*v,a+(x1-x0)*max v (-v)):=by
  unfold js;rw[if_neg];show ¬ max v (-v)>(4000000000000000000-a)/(x1-x0);omega
 have Q:m=max v (-v):=by rw[SM];exact hm
 obtain⟨t,k1,k2,k3,k4⟩:=V7 hx S hi.inv;obtain⟨j1,j2,j3,j4⟩:=hi.inv;simp only at k1 k2 k3 k4 j1 j2 j3 j4;subst Q;have e1:wrap64 (s+wrap64 ((x1-x0)*v))=s+(x1-x0)*v:=by
  rw[IntWalk.wrap64_in ((x1-x0)*v) (by omega),IntWalk.wrap64_in _ (by omega)]
 have e2:wrap64 (a+wrap64 ((x1-x0)*max v (-v)))=a+(x1-x0)*max v (-v):=by
  rw[IntWalk.wrap64_in ((x1-x0)*max v (-v)) (by omega),IntWalk.wrap64_in _ (by omega)]
 rw[e1,e2];exact⟨by rw[V9 hi.sum];exact S,t,(hi.x6.set _).other q _,(hi.x7.other (Ne.symm q) _).set _,(hi.x4.other H _).other N _,(hi.x5.other O _).other P _,
  (hi.bel.setCell h6 _).setCell h7 _,by rw[ucf,ucf];exact hi.sz⟩
def Sl{i j m:Nat}(W:World)(u v:Value)(hb:i<=b)(hc:i<=c)(q:j≠b)(t:j≠c)(w:m≠b)(C:m≠c):cw i j m W ((W.setCell ⟨b,0,V⟩ u).setCell ⟨c,0,V⟩ v):=
 ⟨((uff i W).setCell hb _).setCell hc _,(DD _ _ t).trans (DD _ _ q),(DD _ _ C).trans (DD _ _ w)⟩
def za7(f:bm.den)(A F:Option Addr)(P l2 Q:Nat)(u e1:Int)(w:World)(hR:∀ W,Below w.heap.size w W->Calls prog 196 #[.agg #[.slice A f.1.length P,.slice F l2 Q]] W λe w'=>e=.returned (.bool Z)/\Below W.heap.size W w')(hF:∀ W,Calls prog 197 #[.agg #[.int .i64 u,.int .i64 e1]] W λe w'=>e=.returned (.bool Z)/\Below W.heap.size W w')(all:List jx)(hall:all.map Subtype.val=eL f e1 f.1 u)(hlen:f.1.length<=9223372036854775807)(he0 : -9223372036854775808<=u/\u<=9223372036854775807)(hcells:∀ W,Below w.heap.size w W->0<f.1.length->∃ b off,A=U ⟨b,off,V⟩/\b<w.heap.size/\∀ (i:Nat) (x:Int),f.1[i]?= U x->W.cell? ⟨b,off+i,V⟩=U (.int .i64 x) /\ -9223372036854775808<=x/\x<=9223372036854775807)(hvals:∀ W,Below w.heap.size w W->Ad f (.agg #[.slice A f.1.length P,.slice F l2 Q]) W):
  CallsIn Fence.wide 8 prog 148 #[.agg #[.slice A f.1.length P,.slice F l2 Q],.agg #[.int .i64 u,.int .i64 e1]] w λe w'=>ZM (em (all.map Subtype.val) (0,0)) e/\Below w.heap.size w w':=by
 refine callsIn_of_wp_marks func148 rfl trivial ?_ rfl;simp only[ntmps148,ucp,uc7,udi,Nat.reduceAdd,Nat.reduceSub,ubm,ubn,ucx,ubw,udj,uc2];obtain⟨S,hz,hq⟩:=zj8 [.cells #[.slice A f.1.length P,.slice F l2 Q] 219,.cells #[.int .i64 u,.int .i64 e1] 31,.cells #[.int .i64 0] 3,.cells #[.int .i64 0] 47] w;simp only[als]at S hz hq;have hS:Four _ w.heap.size _ _ _ _ _ _:=⟨hq 0 _ rfl,hq 1 _ rfl,hq 2 _ rfl,hq 3 _ rfl⟩;have hz:=Nat.lt_of_lt_of_eq (Nat.lt_succ_self (w.heap.size+3)) hz.symm;have HS:=Lib.hid hS;have HZ:=Lib.hid hz;clear hS hz hq
 gi_wp2_with (first|(refine⟨uT,?_⟩;gi_at_call 196;refine(callsIn_wide.2 (hR _ S)).mono ?_;rintro e w1 ⟨rfl,hb⟩;obtain⟨k0,k1,k2,k3,k4,k5,k6,k7⟩:=(HS.out.below hb HZ.out).cells)|(refine⟨uT,?_⟩;gi_at_call 197;refine(callsIn_wide.2 (hF _)).mono ?_;rintro e j ⟨rfl,hb2⟩;have H:=Lib.hid ((HS.out.below hb HZ.out).below hb2 (uca HZ.out hb.size));have N:=Lib.hid (uca (uca HZ.out hb.size) hb2.size);have HW3:=Lib.hid (H.out.below (((uff j.heap.size j).alloc (ue6 _) (.cells #[.int .i64 0] 3)).alloc (by simp) (.cells #[.int .i64 0] 3)) N.out);obtain⟨m0,m1,m2,m3,m4,m5,m6,m7⟩:=H.out.cells;obtain⟨n0,n1,n2,n3,n4,n5,n6,n7⟩:=HW3.out.cells)|(refine⟨uT,?_⟩;gi_at_call 198;refine(qwh _ _ _ _ _ _ _ _ _ _).mono ?_;rintro e w3 ⟨rfl,rfl⟩))
 obtain⟨z2,hz2⟩:∃ z2,j.heap.size=z2:=⟨_,rfl⟩;have m:Below w.heap.size w j:=(S.trans (hb.mono (by simp;omega))).trans (hb2.mono (uel (by simp;omega) hb.size))
 let L:List Obj:=[.cells #[.int .i64 0] 3,.cells #[.int .i64 0] 3,.cells #[.slice A f.1.length P,.slice F l2 Q] 219,.cells #[.int .i64 u,.int .i64 e1] 31]
 obtain⟨hbW,hsz,hq⟩:=zj8 L j;have hW4:=H.out.below hbW N.out;have hzz:=N.out;show Code.wpIn _ _ _ _ _ _ (als j L);generalize als j L=W0 at *;replace hsz:W0.heap.size=j.heap.size+4:=hsz;have r0:=hq 0 _ rfl;have r1:=hq 1 _ rfl;have r2:=hq 2 _ rfl;have q3:=hq 3 _ rfl;clear hq;clear HW3 H N HS HZ S m0 m1 m2 m3 m4 m5 m6 m7 n0 n1 n2 n3 n4 n5 n6 n7 k0 k1 k2 k3 k4 k5 k6 k7;have C:Below w.heap.size w W0:=m.trans (hbW.mono m.size);clear hbW hb hb2 hz2 m hR hF;have hzw:w.heap.size+3<W0.heap.size:=by omega
 have hsz':j.heap.size+4<=W0.heap.size:=by omega
 clear hsz;refine wpIn_rangeFunc_ownH rfl (by omega) (gf:=217) (lb:=#[.pointer (U ⟨j.heap.size+1+1+1,0,V⟩),.pointer (U ⟨j.heap.size+1+1,0,V⟩)]) rfl trivial (enters_of func217 (by kernel_rfl) rfl)
  (qwi 7 (by omega) f A F P l2 Q u e1 all hall hlen he0 w (j.heap.size+1+1) (j.heap.size+1+1+1) W0 C r2 q3 hcells hvals)
  (λh k=>h.trans k) (λW l o o' hl ho hoc how=>⟨belowK_b (w:=w) (ue6 _) W l o o' (by omega) ho hoc how,World.putObj_heap_other (by omega),World.putObj_heap_other (by omega)⟩) (uff _ _) (λ_=>rfl)
  (λt W=>∃ q,SumI w W0.heap.size (w.heap.size+1+1) (w.heap.size+1+1+1) j.heap.size (j.heap.size+1) t W q)
  (λc t W=>SumX w (w.heap.size+1+1) (w.heap.size+1+1+1) c t W)
  (za0 (by omega)) (za4 (by omega)) ⟨(0,0),rfl,⟨by decide,by decide,by decide,by decide⟩,r0,r1,hW4.b2,hW4.b3,C,ue6 _⟩
  (N3 W0.heap.size (λx Bx=>{ tmps:=#[.agg #[.slice A f.1.length P,.slice F l2 Q],.agg #[.int .i64 u,.int .i64 e1],.pointer (U ⟨w.heap.size,0,V⟩),.pointer (U ⟨w.heap.size+1,0,V⟩),.pointer (U ⟨w.heap.size+1+1,0,V⟩),.pointer (U ⟨w.heap.size+1+1+1,0,V⟩),.pointer (U ⟨j.heap.size,0,V⟩),.pointer (U ⟨j.heap.size+1,0,V⟩),.pointer (U ⟨Bx,0,V⟩),.int .i64 x.2.2,undef,undef,
   .agg #[.slice A f.1.length P,.slice F l2 Q],.bool Z,.bool Y,.bool Y,.agg #[.int .i64 u,.int .i64 e1],.bool Z,.bool Y,.bool Y,.agg #[.slice A f.1.length P,.slice F l2 Q],.agg #[.int .i64 u,.int .i64 e1],.func (.func 217) #[] #[.pointer (U ⟨j.heap.size+1+1+1,0,V⟩),.pointer (U ⟨j.heap.size+1+1,0,V⟩)],
   .agg #[.int .i64 x.1,.int .i64 x.2.1],.int .i64 x.2.2,undef,undef,undef,undef,undef,undef,undef,undef,undef,undef,undef,undef,undef,undef,undef,undef,undef,undef,undef,undef,undef,undef,undef,undef,undef,undef],defers:=[] }))
  zaz ?assign ?body ?done ?stop
 case assign=>
  rintro l t x W K ⟨q,hi⟩ hK;obtain⟨⟨x0,x1,v⟩,hx⟩:=x
  gi_wp2
  have hsz1:=hi.sz;exact hK _ _ ((KeepsOthers.alloc _ _).from _) (cw.below ((uff _ W).alloc (ue6 _) _) hi.bel.size (by omega) (by omega))
   ⟨q,hi.sum,hi.inv,hi.x6.alloc _,hi.x7.alloc _,hi.x4.alloc _,hi.x5.alloc _,hi.bel.alloc hi.bel.size _,by simp;omega⟩ ⟨W.heap.size,hsz1,World.alloc_heap_new W _,rfl⟩
 case body=>
  rintro l t x a' W hl ⟨r,hr⟩ ⟨q,hi⟩ ⟨Bx,hBx,bX,rfl⟩ hlt;obtain⟨⟨x0,x1,v⟩,hx⟩:=x;obtain⟨s,a⟩:=q;have hx':1<=x0/\x0<x1/\x1<=292195 /\ -4000000000000000000<=v/\v<=4000000000000000000:=hx;obtain⟨y1,y2,y3,y4,y5⟩:=hx';have hinv:0<=a/\a<=4000000000000000000 /\ -a<=s/\s<=a:=hi.inv;obtain⟨i1,i2,i3,i4⟩:=hinv;have O:W.heap[Bx]?= U (.cells #[.int .i64 x0,.int .i64 x1] 31 (0,0)):=bX;have cX0:W.cell? ⟨Bx,0,V⟩=U (.int .i64 x0):=aO O 0;have cX1:W.cell? ⟨Bx,1,V⟩=U (.int .i64 x1):=aO O 1;have c6:W.cell? ⟨j.heap.size,0,V⟩=U (.int .i64 s):=hi.x6.cell;have c7:W.cell? ⟨j.heap.size+1,0,V⟩=U (.int .i64 a):=hi.x7.cell;have f6:=hi.x6.frozen;have f7:=hi.x7.frozen;have c4:=hi.x4.cell;have f4:=hi.x4.frozen;have c5:=hi.x5.cell;have f5:=hi.x5.frozen;have HB:=Lib.hid O;clear bX O hr
  gi_wp2
  have hc:(4000000000000000000-a)/(x1-x0)<if v < -v then -v else v:=by assumption
  exact⟨((KeepsOthers.setCell _ _ _).trans (KeepsOthers.setCell _ _ _)).from _,V4 hi hx hc (by omega) (by omega) (by omega)⟩;have hc:(4000000000000000000-a)/(x1-x0)<if v < -v then -v else v:=by assumption
  exact⟨((KeepsOthers.setCell _ _ _).trans (KeepsOthers.setCell _ _ _)).from _,V4 hi hx hc (by omega) (by omega) (by omega)⟩;have hc:(if v < -v then -v else v)<=(4000000000000000000-a)/(x1-x0):=by assumption
  have hv:v < -v:=by assumption
  exact⟨((KeepsOthers.setCell _ _ _).trans (KeepsOthers.setCell _ _ _)).from _,Sl W _ _ (by omega) (by omega) (by omega) (by omega) (by omega) (by omega),_,_,
   V3 hi hx hc (by rw[if_pos hv]) (by omega) (by omega) (by omega) (by omega) (by omega) (by omega) (by omega)⟩
  have hc:(if v < -v then -v else v)<=(4000000000000000000-a)/(x1-x0):=by assumption
  have hv:¬ v < -v:=by omega
  exact⟨((KeepsOthers.setCell _ _ _).trans (KeepsOthers.setCell _ _ _)).from _,Sl W _ _ (by omega) (by omega) (by omega) (by omega) (by omega) (by omega),_,_,
   V3 hi hx hc (by rw[if_neg hv]) (by omega) (by omega) (by omega) (by omega) (by omega) (by omega) (by omega)⟩
 case done=>
  rintro D zs W hD rfl ⟨q,hi⟩ hK;have c6:=hi.x6.cell;have c4:=hi.x4.cell;have f4:=hi.x4.frozen;have c5:=hi.x5.cell;have f5:=hi.x5.frozen
  gi_wp2
  have hK':=((KeepsOthers.setCell W ⟨w.heap.size+1+1,0,V⟩ (.int .i64 q.1)).trans (KeepsOthers.setCell _ ⟨w.heap.size+1+1+1,0,V⟩ (.int .i64 0))).same D _ hK rfl;have x4':=(hi.x4.set (.int .i64 q.1)).other (B':=w.heap.size+1+1+1) (by omega) (.int .i64 0);have x5':=(hi.x5.other (B':=w.heap.size+1+1) (by omega) (.int .i64 q.1)).set (.int .i64 0);have d4:=cell_kept x4'.cell (grownBy_putObj' _ D (.deferred V)) (λr e=>by cases e;exact⟨_,hK',rfl⟩);have d5:=cell_kept x5'.cell (grownBy_putObj' _ D (.deferred V)) (λr e=>by cases e;exact⟨_,hK',rfl⟩);have hbb:=(hi.bel.setCell (p:=⟨w.heap.size+1+1,0,V⟩) (by show w.heap.size<=w.heap.size+1+1;omega) (.int .i64 q.1)).setCell (p:=⟨w.heap.size+1+1+1,0,V⟩) (by show w.heap.size<=w.heap.size+1+1+1;omega) (.int .i64 0);refine⟨by simp,.inl ⟨_,_,rfl,run_takeDeferred hK',?_⟩⟩;refine⟨.tuple #[.int .i64 q.1,.int .i64 0],?_,?_,hbb.trans (belowK_b (w:=w) (ue6 _) _ D _ _ (by omega) hK' rfl rfl)⟩
  ·simp[results,results148,go_sem,d4,d5]
  rw[hi.sum];rfl
 case stop=>
  rintro D c t W hD ⟨r,rfl⟩ h hK;obtain rfl:=h.ret;have c4:=h.x4.cell;have f4:=h.x4.frozen;have c5:=h.x5.cell;have f5:=h.x5.frozen
  gi_wp2
  have d4:=cell_kept h.x4.cell (grownBy_putObj' _ D (.deferred V)) (λr e=>by cases e;exact⟨_,hK,rfl⟩);have d5:=cell_kept h.x5.cell (grownBy_putObj' _ D (.deferred V)) (λr e=>by cases e;exact⟨_,hK,rfl⟩);refine⟨by simp,.inl ⟨_,_,rfl,run_takeDeferred hK,?_⟩⟩;refine⟨.tuple #[.int .i64 0,.int .i64 5],?_,?_,h.bel.trans (belowK_b (w:=w) (ue6 _) _ D _ _ (by omega) hK rfl rfl)⟩
  ·simp[results,results148,go_sem,d4,d5]
  rw[udt,V5,h.sum];rfl
end
def NH{a b:Value}(q:cs.size=2)(h0:cs[0]?= U a)(j:cs[1]?= U b):cs = #[a,b]:=by
 apply ufj;simp[q];intro i hi t;have m:i<2:=by omega
 match i,m with
 |0,_=>
  have:=uaf.1 h0;simpa using this.2
 |1,_=>
  have:=uaf.1 j;simpa using this.2
def zau{f:bm.den}(h:bu w F bm f v):∃ a b,v=.agg #[a,b]/\aA w F aK f.1 (λ_ u=>u=a)/\aA w F aK f.2.1 (λ_ u=>u=b):=by
 obtain⟨cs,rfl⟩:=h.2.1.1 rfl;have t:cs.size=2:=h.1;refine⟨cs[0]'(by omega),cs[1]'(by omega),?_,?_,?_⟩;congr 1;exact NH t (uam (by omega)) (uam (by omega));refine aA.mono (λ_ h=>h) (λ_ _=>rfl) ?_ h.2.2.1;intro j u m q;have:j=0:=by have:j<1:=m;omega
 subst this;have i:cs[0]?= U u:=q;rw[uam (by omega)]at i;simpa using i.symm;refine aA.mono (λ_ h=>h) (λ_ _=>rfl) ?_ h.2.2.2.1;intro j u m q;have:j=0:=by have:j<1:=m;omega
 subst this;have i:cs[1]?= U u:=q;rw[uam (by omega)]at i;simpa using i.symm
def zag{s:cn.den}(h:bu w F cn s v):v=.agg #[.int .i64 s.1,.int .i64 s.2.1]/\(-9223372036854775808<=s.1/\s.1<=9223372036854775807) /\ -9223372036854775808<=s.2.1/\s.2.1<=9223372036854775807:=by
 obtain⟨cs,rfl⟩:=h.2.1.1 rfl;have j:cs.size=2:=h.1;have h0:cs[0]?= U (.int .i64 s.1):=h.2.2.1.1;have i:cs[1]?= U (.int .i64 s.2.1):=h.2.2.2.1.1;exact⟨by rw[NH j h0 i],h.2.2.1.2,h.2.2.2.1.2⟩
def Lk:{l:List (Int×Int×Int)}->(∀ x∈l,qm x) -> {q i:Int×Int}->wD q->em l q=U i->wD i
 |[],_,q,i,hq,h=>by
  simp only[em,uck]at h;subst h;exact hq
 |x::l,m,q,i,hq,h=>by
  simp only[em]at h;cases j:js q x with
  |none=>rw[j]at h;cases h
  |some u=>
   rw[j]at h;exact Lk (λy t=>m y (by simp[t])) (V7 (m x (by simp)) j hq).1 h
def nc{b:Int}{u:Unit}:dN (a,b,u)=Z↔1<=a/\a<b/\b<=292195:=by
 simp[dN]
def Lv{b:Int}(i : -9223372036854775808<=a/\a<=9223372036854775807)(hb : -9223372036854775808<=b/\b<=9223372036854775807):gT w F [i64,i64] (a,b,()) (.tuple #[.int .i64 a,.int .i64 b]):=
 ⟨_,rfl,_,_,rfl,⟨rfl,⟨λh=>(by cases h),λ⟨cs,h⟩=>(by cases h)⟩,rfl,i⟩,_,_,rfl,⟨rfl,⟨λh=>(by cases h),λ⟨cs,h⟩=>(by cases h)⟩,rfl,hb⟩,rfl⟩
def NJ:{l:List (Int×Int×Int)}->(∀ x∈l,qm x)->∃ all:List jx,all.map Subtype.val=l
 |[],_=>⟨[],rfl⟩
 |x::l,h=>by
  obtain⟨all,i⟩:=NJ (l:=l) (λy j=>h y (by simp[j]));exact⟨⟨x,h x (by simp)⟩::all,by simp[i]⟩
def za6:af prog 148 AD:=by
 refine⟨enters (fn:=f148) (by kernel_rfl) rfl rfl,λw F xs vs t hr _=>?_⟩;obtain⟨f,⟨m,e1,u⟩,_⟩:=xs;obtain⟨va,vs',rfl,hva,vb,vs'',rfl,hvb,hn⟩:=hr;cases hn;have S:bu w F bm f va:=hva;have hvb':bu w F cn (m,e1,u) vb:=hvb;obtain⟨rfl,he0,he1⟩:=zag hvb';obtain⟨sa,sb,rfl,ha,hb⟩:=zau S;obtain⟨A,c1,rfl,hl1,hl2,P⟩:=KN ha;obtain⟨A',c2,rfl,hl3,hl4,_⟩:=KN hb;have C:∀ W,Below w.heap.size w W->bu W F bm f (.agg #[.slice A f.1.length c1,.slice A' f.2.1.length c2]):=λW O=>S.mono (λ_ h=>h) (λb hb=>O.block b (t b hb));have hspan:∀ (W:World) (F:Nat->Prop),bu W F cn (m,e1,u) (.agg #[.int .i64 m,.int .i64 e1]):=λW F=>⟨rfl,⟨λ_=>⟨_,rfl⟩,λ_=>rfl⟩,⟨rfl,he0⟩,⟨rfl,he1⟩,uT⟩;have hR:∀ W,Below w.heap.size w W->Calls prog 196 #[.agg #[.slice A f.1.length c1,.slice A' f.2.1.length c2]] W λe w'=>e=.returned (.bool (jU f))/\Below W.heap.size W w':=λW O=>
  FM (ps:=[.d bm]) (g:=λx=>jU x.1) qxt (F:=F) (xs:=(f,())) (vs:=[_]) (λb hb=>uca (t b hb) O.size) ⟨_,[],rfl,C W O,rfl⟩ trivial
 have hF:∀ W,Calls prog 197 #[.agg #[.int .i64 m,.int .i64 e1]] W λe w'=>e=.returned (.bool (dN (m,e1,())))/\Below W.heap.size W w':=λW=>
  FM (ps:=[.d cn]) (g:=λx=>dN x.1) ql7 (F:=λ_=>False) (xs:=((m,e1,()),())) (vs:=[_]) (λb hb=>hb.elim) ⟨_,[],rfl,hspan W _,rfl⟩ trivial
 by_cases N:jU f=Z/\dN (m,e1,())=Z;obtain⟨hr1,H⟩:=N;obtain⟨hlen,hup,_,hval⟩:=Kz hr1;have hok:=Da (f:=f) hval (e:=e1) (nc.1 H).2.2 f.1 m (nc.1 H).1 (nc.1 H).2.1;obtain⟨all,Q⟩:=NJ hok;rw[hr1]at hR;rw[H]at hF;have hl0:f.1.length<=9223372036854775807:=by
  have:=uel hl1 hl2;unfold maxLen at this;omega
 have key:=za7 f A A' c1 f.2.1.length c2 m e1 w hR hF all Q hl0 he0 (λW O hp=>by
  obtain⟨b,off,h1,h2,h3⟩:=P hp;exact⟨b,off,h1,t b h2,λi x hx=>⟨(O.cell (p:=⟨b,off+i,V⟩) (t b h2)).trans (h3 i x hx).1,(h3 i x hx).2⟩⟩)
  (λW O=>zcy (λb hb=>uca (t b hb) O.size) (C W O) hup hlen)
 refine(callsIn_wide.1 key).mono ?_;rintro e w' ⟨he,j⟩;rw[Q]at he;have hS:eo f (m,e1,u)=match em (eL f e1 f.1 m) (0,0)with
   |some q=>(q.1,0)
   |none=>(0,5):=by
  unfold eo;rw[if_pos ⟨hr1,H⟩]
  try rfl
 cases hq:em (eL f e1 f.1 m) (0,0)with
 |none=>
  rw[hq]at he hS;have he':e=.returned (.tuple #[.int .i64 0,.int .i64 5]):=he;refine⟨_,F,he',j,λ_ h=>h,λb hb=>⟨.inl hb,uca (t b hb) j.size⟩,?_⟩;show gT w' F [i64,i64] ((eo f (m,e1,u)).1,(eo f (m,e1,u)).2,()) _;rw[hS];exact Lv (by decide) (by decide)
 |some q=>
  rw[hq]at he hS;have he':e=.returned (.tuple #[.int .i64 q.1,.int .i64 0]):=he;refine⟨_,F,he',j,λ_ h=>h,λb hb=>⟨.inl hb,uca (t b hb) j.size⟩,?_⟩;show gT w' F [i64,i64] ((eo f (m,e1,u)).1,(eo f (m,e1,u)).2,()) _;rw[hS];obtain⟨j1,j2,j3,j4⟩:=Lk hok (q:=(0,0)) ⟨by decide,by decide,by decide,by decide⟩ hq;exact Lv ⟨by show _<=q.1;omega,by show q.1<=_;omega⟩ (b:=0) (by decide)
 have key:=za5 f A A' f.1.length c1 f.2.1.length c2 m e1 w hR hF N;refine(callsIn_wide.1 key).mono ?_;rintro e w' ⟨rfl,j⟩;refine⟨_,F,rfl,j,λ_ h=>h,λb hb=>⟨.inl hb,uca (t b hb) j.size⟩,?_⟩;show gT w' F [i64,i64] ((eo f (m,e1,u)).1,(eo f (m,e1,u)).2,()) _;have hS:eo f (m,e1,u)=(0,1):=if_neg N;rw[hS];exact Lv (by decide) (by decide)
def fK(p:List Int×List Int)(day v:Int):List Int×List Int:=
 let q:=if p.1.getLast?= U day then (p.1.dropLast,p.2.dropLast)else p
 if v≠q.2.getLast?.getD 0/\day<=292194 then (q.1++[day],q.2++[v])else q
section
variable {α:Type}
def Ai(at_ val:List Int)(day v:Int)(K:List Int->List Int->Fr α):Fr α:=
 Jb (J ((val.length:Int)>0))
  (Jd (0<=I6.wrap (val.length-1)/\I6.wrap (val.length-1)<val.length)
   (Jd ((I6.wrap (val.length-1)).toNat<val.length)
    (Jb (bif v != val.getD (I6.wrap (val.length-1)).toNat i64.dflt then J (day<=292194)else Y)
     (Jd (at_.length + [day].length<=maxLen/\(at_.length + [day].length)*8<=140737488355328)
      (Jd (val.length + [v].length<=maxLen/\(val.length + [v].length)*8<=140737488355328)
       (K (at_++[day]) (val++[v]))))
     (K at_ val))))
  (Jb (bif v != 0 then J (day<=292194)else Y)
   (Jd (at_.length + [day].length<=maxLen/\(at_.length + [day].length)*8<=140737488355328)
    (Jd (val.length + [v].length<=maxLen/\(val.length + [v].length)*8<=140737488355328)
     (K (at_++[day]) (val++[v]))))
   (K at_ val))
def NC(at_ val:List Int)(day v:Int)(K:List Int->List Int->Fr α):Fr α:=
 Jd (J ((at_.length:Int)>0)=Z->0<=I6.wrap (at_.length-1)/\I6.wrap (at_.length-1)<at_.length)
  (Jd (J ((at_.length:Int)>0)=Z->(I6.wrap (at_.length-1)).toNat<at_.length)
   (Jb (bif J ((at_.length:Int)>0)then at_.getD (I6.wrap (at_.length-1)).toNat i64.dflt==day else Y)
    (Jd (0<=I6.wrap (at_.length-1)/\I6.wrap (at_.length-1)<=at_.length)
     (Jd (0<=I6.wrap (at_.length-1)/\I6.wrap (at_.length-1)<=val.length)
      (Ai (at_.take (I6.wrap (at_.length-1)).toNat) (val.take (I6.wrap (at_.length-1)).toNat) day v K)))
    (Ai at_ val day v K)))
def C9(h:0<l.length)(hb:l.length<1000000):l.getD (I6.wrap ((l.length:Int)-1)).toNat i64.dflt=l.getLast?.getD 0:=by
 rw[cz (by omega),uao,uah];have:((l.length:Int)-1).toNat=l.length-1:=by omega
 rw[this];rfl
def qad{at_ val:List Int}{v:Int}{K:List Int->List Int->Fr α}{Q:α->Prop}(w:at_.length<1000000)(q:val.length<1000000)(h:(if v≠val.getLast?.getD 0/\day<=292194 then K (at_++[day]) (val++[v])else K at_ val).satP Q):(Ai at_ val day v K).satP Q:=by
 have i:∀ (l:List Int) (x:Int),l.length<1000000->l.length + [x].length<=maxLen/\(l.length + [x].length)*8<=140737488355328:=λl x F=>by
  simp only[maxLen,ua7];omega
 by_cases u:0<val.length;refine⟨λ_=>⟨?_,?_,?_,?_⟩,λt=>?_⟩;rw[cz (by omega)];omega;rw[cz (by omega)];omega;intro hb;rw[C9 u q,oc]at hb;have j:v≠val.getLast?.getD 0/\day<=292194:=by simpa using hb
 rw[if_pos j]at h;exact⟨i _ _ w,i _ _ q,h⟩;intro hb;rw[C9 u q,oc]at hb;have j:¬ (v≠val.getLast?.getD 0/\day<=292194):=by
  intro hc;simp[hc.1,hc.2]at hb
 rw[if_neg j]at h;exact h;exact absurd (ucg t) (by omega);have m:val=[]:=by
  cases val with
  |nil=>rfl
  |cons _ _=>simp at u
 subst m;refine⟨λt=>by simp at t,λ_=>⟨λhb=>?_,λhb=>?_⟩⟩;rw[oc]at hb;have j:v≠([]:List Int).getLast?.getD 0/\day<=292194:=by simpa using hb
 rw[if_pos j]at h;exact⟨i _ _ w,i _ _ q,h⟩;rw[oc]at hb;have j:¬ (v≠([]:List Int).getLast?.getD 0/\day<=292194):=by
  intro hc;have C:v≠0:=hc.1;simp[C,hc.2]at hb
 rw[if_neg j]at h;exact h
def qae{at_ val:List Int}{v:Int}{K:List Int->List Int->Fr α}{Q:α->Prop}(q:at_.length<1000000)(t:at_.length=val.length)(h:(K (fK (at_,val) day v).1 (fK (at_,val) day v).2).satP Q):(NC at_ val day v K).satP Q:=by
 have key:∀ a b:List Int,a.length<1000000->b.length<1000000->fK (at_,val) day v=(if v≠b.getLast?.getD 0/\day<=292194 then (a++[day],b++[v])else (a,b))->(Ai a b day v K).satP Q:=λa b u hb w=>by
  refine qad u hb ?_;rw[w]at h;by_cases hc:v≠b.getLast?.getD 0/\day<=292194;rw[if_pos hc]at h |-;exact h;rw[if_neg hc]at h |-;exact h
 refine⟨λj=>?_,λj=>?_,λhb=>⟨?_,?_,?_⟩,λhb=>?_⟩;have:(at_.length:Int)>0:=by simpa using j
 rw[cz (by omega)];omega;have:(at_.length:Int)>0:=by simpa using j
 rw[cz (by omega)];omega;have:(at_.length:Int)>0:=by
  simp at hb;simpa using hb.1
 rw[cz (by omega)];omega;have:(at_.length:Int)>0:=by
  simp at hb;simpa using hb.1
 rw[cz (by omega)];omega;rw[oc]at hb;obtain⟨j,hb⟩:=Bool.and_eq_true_iff.1 hb;have i:0<at_.length:=by simpa using j
 rw[C9 i q]at hb;have m:at_.getLast?= U day:=by
  have:at_.getLast?.getD 0=day:=by simpa using hb
  rw[uao]at this |-;rw[uaq (by omega)]at this |-;simpa using this
 have e1:(I6.wrap ((at_.length:Int)-1)).toNat=at_.length-1:=by
  rw[cz (by omega)];omega
 rw[e1];refine key _ _ (by simp;omega) (by simp;omega) ?_;unfold fK;simp only[m,if_true,List.dropLast_eq_take,<- t];rw[oc]at hb;refine key _ _ q (by omega) ?_;have m:at_.getLast? ≠ U day:=by
  intro m;have i:0<at_.length:=by
   cases at_ with
   |nil=>simp at m
   |cons _ _=>simp
  have j:J ((at_.length:Int)>0)=true:=by simpa using i
  rw[j,C9 i q,m]at hb;simp at hb
 unfold fK;simp only[m,ufn]
end
def NB{p:List Int×List Int}(day v:Int)(h:p.1.length=p.2.length):(fK p day v).1.length=(fK p day v).2.length/\(fK p day v).1.length<=p.1.length+1:=by
 unfold fK;by_cases hc:p.1.getLast?= U day;simp only[hc,if_true];split<;>simp<;>omega
 simp only[hc,ufn];split<;>simp<;>omega
abbrev Sf:List (Tmp×PT):=[(10015,.d i64),(10014,.d i64),(10013,.d zel),(10005,.d i64)]
abbrev Se:List MI:=[.y 3 219 [(U 3,i64),(U 3,i64)],.r 10003 3 0,.g 10004 151 [3],.x 7 213 aB,.r 10007 7 0,.x 2 219 bm,.r 10002 2 0]
abbrev yC:Pt:=⟨65,0,⟨Sf,Se⟩,⟨[],[]⟩,⟨[],[]⟩⟩
abbrev LA:LS:=⟨(0,.d i64)::(1,.d i64)::Sf,.r 2 3 0::Se⟩
noncomputable def FJ:Code:=f151.body.getD .skip
def frA(x:LA.X):Fr yC.Out:=
 NC x.2.1.1 x.2.1.2.1 x.1.1 x.1.2.1 λa b=>Jv (Rd.next (x.1.2.2,(a,b,()),x.2.2))
def Pg:CxOK prog (cx [] []):=aP aG trivial trivial
def qyn:ae prog FJ LA yC frA:=
 ae.of_run Pg (bs:=80000) (Λ:=bw) rfl rfl rfl (λE=>aY _ 0) (λx=>by kernel_rfl)
def FA(x:LA.X):Fr yC.Out:=
 Jd (x.2.1.1.length<1000000/\x.2.1.1.length=x.2.1.2.1.length)
  (Jv (Rd.next (x.1.2.2,((fK (x.2.1.1,x.2.1.2.1) x.1.1 x.1.2.1).1,(fK (x.2.1.1,x.2.1.2.1) x.1.1 x.1.2.1).2,()),x.2.2)))
def qf1:ae prog FJ LA yC FA:=
 qyn.conv λx Q h=>qae h.1.1 h.1.2 h.2
noncomputable def kA:Nat->FuncId->List AV->St->Option Tr:=IK prog (cx [] []).Γ 151 f151 LA yC FA
def qom:gQ prog kA:=qnb Pg (c:=FJ) (by kernel_rfl) (by kernel_rfl) rfl rfl qf1
noncomputable def CC:Cx:=cW [(152,qw)] [(149,eF)] kA
def EA:CxOK prog CC:=cZ aG ⟨ql8,uT⟩ ⟨JE,uT⟩ qom
abbrev iV:Pt:=⟨41,0,⟨[(15,.d i64),(14,.d i64),(13,.d zel),(5,.d i64)],[.y 3 219 [(U 3,i64),(U 3,i64)],.r 3 3 0,.g 4 151 [3],.x 2 219 bm,.r 2 2 0]⟩,⟨[],[.y 3 219 [(U 3,i64),(U 3,i64)],.r 3 3 0,.x 2 219 bm,.r 2 2 0]⟩,⟨[],[]⟩⟩
def addS(p:List Int×List Int)(s:aB.den):List Int×List Int:=fK (fK p s.1.1 s.2.2.2.2.1) s.1.2.1 0
def qk3(x:iV.M.X)(s:aB.den):Fr iV.Out:=
 let b:=addS (x.2.1.1,x.2.1.2.1) s;let a:=fK (x.2.1.1,x.2.1.2.1) s.1.1 s.2.2.2.2.1;Jd (x.2.1.1.length<1000000/\x.2.1.1.length=x.2.1.2.1.length)
  (Jd (a.1.length<1000000/\a.1.length=a.2.length)
   (Jv (Rd.next ((I6.wrap (x.1.1+1),x.1.2.1,x.1.2.2.1,s.1.2.1,()),(b.1,b.2,()),x.2.2.1,()))))
def Q3(x:iV.M.X):Fr iV.Out:=
 let a:=qk3 x (x.1.2.2.1.getD x.1.1.toNat aB.dflt);Jb (J (x.1.1<x.1.2.1))
  (Jd (0<=x.1.1/\x.1.1<x.1.2.2.1.length)
   (Jb (!(qw.f (x.1.2.2.1.getD x.1.1.toNat aB.dflt,x.1.2.2.2.1,())).1)
    (Jb (eF.bad (1,())) (Jv (Rd.pan (eF.pv (1,()))))
     a)
    a))
  (Jv (Rd.out ((),(x.2.1.1,x.2.1.2.1,()),x.2.2.1,())))
def qyr:ae prog (au f91 0) iV.M iV Q3:=
 dn EA
def gX:List aB.den->Int->List Int×List Int->Option (List Int×List Int)
 |[],_,p=>U p
 |s::l,e,p=>if ne s e=Z then gX l s.1.2.1 (addS p s)else V
def TC(r:bm.den)(o:Option (List Int×List Int)):Fr iV.Out:=
 Jb o.isSome (Jv (Rd.out ((),((o.getD ([],[])).1,(o.getD ([],[])).2,()),r,()))) (Jv (Rd.pan ⟨47,.i64,1⟩))
structure InvC (i n:Int) (l:List aB.den) (p:List Int×List Int):Prop where
 len:n=l.length
 lo:0<=i
 hi:i<=n
 most:l.length<=2000
 both:p.1.length=p.2.length
 few:p.1.length<=2*i
def FC(x:iV.M.X):Fr iV.Out:=
 Jd (InvC x.1.1 x.1.2.1 x.1.2.2.1 (x.2.1.1,x.2.1.2.1)) (TC x.2.2.1 (gX (x.1.2.2.1.drop x.1.1.toNat) x.1.2.2.2.1 (x.2.1.1,x.2.1.2.1)))
def qpm(i n:Int)(l:List aB.den)(e:Int)(at_ val:List Int)(r:bm.den)(t:InvC i n l (at_,val))(Q:iV.Out->Prop)(hq:(TC r (gX (l.drop i.toNat) e (at_,val))).satP Q):
  (Q3 ((i,n,l,e,()),(at_,val,()),r,())).satP λ
   |.next j=>InvC j.1.1 j.1.2.1 j.1.2.2.1 (j.2.1.1,j.2.1.2.1)/\(j.1.2.1-j.1.1).toNat<(n-i).toNat/\(FC j).satP Q
   |.out y=>Q (.out y)
   |.back z=>Q (.back z)
   |.pan p=>Q (.pan p):=by
 obtain⟨rfl,P,h5,S,N,W⟩:=t;refine⟨λhi=>?_,λhi=>?_⟩;have q:i<l.length:=by simpa using hi
 have u:i.toNat<l.length:=by omega
 have e1:=ual u;have w:l.getD i.toNat aB.dflt=l[i.toNat]:=by rw[uah,uaq u];rfl
 rw[e1]at hq;generalize hs:l[i.toNat]=s at *;refine⟨⟨P,q⟩,λhb=>?_,λhb=>?_⟩;have m:ne s e=false:=by
  have:(!(qw.f (l.getD i.toNat aB.dflt,e,())).1)=true:=hb;rw[w]at this;simpa[qw]using this
 have C:Q (Rd.pan ⟨47,.i64,1⟩):=by
  unfold gX at hq;rw[m]at hq;exact hq.2 rfl
 exact⟨λ_=>C,λhc=>by cases hc⟩;have m:ne s e=true:=by
  have:(!(qw.f (l.getD i.toNat aB.dflt,e,())).1)=false:=hb;rw[w]at this;simpa[qw]using this
 unfold gX at hq;rw[m,if_pos rfl]at hq;have F:=NB s.1.1 s.2.2.2.2.1 N;have H:=NB s.1.2.1 0 F.1;rw[w];have hw:I6.wrap (i+1)=i+1:=cz (by omega);have hn:(i+1).toNat=i.toNat+1:=by omega
 have h8':(at_.length:Int)<=2*i:=W;have O:InvC (i+1) l.length l (addS (at_,val) s):=⟨rfl,by omega,by omega,S,H.1,by
  have:(addS (at_,val) s).1.length<=(fK (at_,val) s.1.1 s.2.2.2.2.1).1.length+1:=H.2;omega⟩
 refine⟨⟨by show at_.length<1000000;omega,N⟩,⟨by show(fK (at_,val) s.1.1 s.2.2.2.2.1).1.length<1000000;omega,F.1⟩,?_⟩;show InvC (I6.wrap (i+1)) l.length l (addS (at_,val) s)/\((l.length:Int)-I6.wrap (i+1)).toNat<((l.length:Int)-i).toNat/\(FC ((I6.wrap (i+1),(l.length:Int),l,s.1.2.1,()),((addS (at_,val) s).1,(addS (at_,val) s).2,()),r,())).satP Q;rw[hw];refine⟨O,by omega,O,?_⟩;rw[hn];exact hq;have q:¬ i<l.length:=by simpa using hi
 have u:l.drop i.toNat=[]:=ua2 (by omega);rw[u]at hq;exact hq.1 rfl
def qqt:ae prog (.loop (au f91 0)) iV.M iV FC:=by
 refine ae.loop qyr (μ:=λx=>(x.1.2.1-x.1.1).toNat) ?_ (λx Q h=>h.1);rintro⟨⟨i,n,l,e,_⟩,⟨at_,val,_⟩,r,_⟩ j Q hq;exact qpm i n l e at_ val r j Q hq.2
noncomputable def ΛC:Nat->St->Option Tr:=λ_=>iV.han CC.Γ iV.M FC
def iG(l:List aB.den):Option (List Int×List Int):=if l.length<=2000 then gX l 1 ([],[])else V
def Q5(x:ag [.d zel]):Fr (Oc (aa [bm])):=
 let a:=gX (x.1.drop (Int.toNat 0)) 1 ([],[]);let b:=a.getD ([],[]);Jd (InvC 0 x.1.length x.1 ([],[]))
  (Jb a.isSome (Jv (Oc.ok ((b.1,b.2,()),())))
   (Jv (Oc.pan ⟨47,.i64,1⟩)))
def kH(x:ag [.d zel]):Fr (Oc (aa [bm])):=
 Jb (J ((x.1.length:Int)>2000))
  (Jb (eF.bad (1,())) (Jv (Oc.pan (eF.pv (1,())))) (Q5 x))
  (Q5 x)
def qew:jz prog 91 ⟨[.d zel],[bm],λxs=>(kH xs).get.val,λxs=>(kH xs).get.bad,λxs=>(kH xs).get.pv,λxs=>[(kH xs).ok]⟩:=
 Q0 EA (Λ:=ΛC) (fn:=f91) ([],()) (by kernel_rfl) (λc E hc=>ea hc (by kernel_rfl) (b:=au f91 0) (by kernel_rfl) (ae.han EA rfl qqt)) (λxs=>by kernel_rfl)
def cy(l:List aB.den):bm.den:=(((iG l).getD ([],[])).1,((iG l).getD ([],[])).2,())
def dW:Pc:=⟨[.d zel],[bm],λx=>(cy x.1,()),λx=>(iG x.1).isNone,λ_=>⟨47,.i64,1⟩,λ_=>[]⟩
def Pf:jz prog 91 dW:=
 OP qew _ _ _ _ λw F xs vs C _=>by
  obtain⟨l,_⟩:=xs;by_cases t:l.length<=2000;have q:J ((l.length:Int)>2000)=false:=by simp;omega
  have u:InvC 0 l.length l ([],[]):=⟨rfl,ue7 _,by omega,t,rfl,by simp⟩;have m:iG l=gX l 1 ([],[]):=if_pos t;have j:(kH (l,())).get=if (gX l 1 ([],[])).isSome=Z then Oc.ok (cy l,())else Oc.pan ⟨47,.i64,1⟩:=by
   show(if J ((l.length:Int)>2000)=Z then _ else (if (gX l 1 ([],[])).isSome=Z then Oc.ok _ else Oc.pan _))=_;rw[q];unfold cy;rw[m];rfl
  refine⟨⟨λhb=>?_,λ_=>⟨u,λ_=>uT,λ_=>uT⟩⟩,?_,?_,?_⟩;have i:=hb;rw[q]at i;cases i;show(kH (l,())).get.bad=(iG l).isNone;rw[j,m];cases gX l 1 ([],[])<;>rfl
  intro hb;have i:=hb;show(kH (l,())).get.val=(cy l,());rw[j];rw[m]at i;cases h:gX l 1 ([],[])with
  |none=>rw[h]at i;cases i
  |some p=>rfl
  intro hb;have i:=hb;show(kH (l,())).get.pv=_;rw[j];rw[m]at i;cases h:gX l 1 ([],[])with
  |none=>rfl
  |some p=>rw[h]at i;cases i
  have q:J ((l.length:Int)>2000)=true:=by simp;omega
  have m:iG l=none:=if_neg t;have j:(kH (l,())).get=Oc.pan ⟨47,.i64,1⟩:=by
   show(if J ((l.length:Int)>2000)=Z then _ else _)=_;rw[q];rfl
  refine⟨⟨λ_=>⟨λ_=>uT,λhc=>by cases hc⟩,λhb=>?_⟩,?_,?_,?_⟩;have i:=hb;rw[q]at i;cases i;show(kH (l,())).get.bad=(iG l).isNone;rw[j,m];rfl;intro hb;have i:=hb;rw[m]at i;cases i;intro _;show(kH (l,())).get.pv=_;rw[j];rfl
def dX(d:Int):Int:=if 292195<(if d<1 then 1 else d)then 292195 else (if d<1 then 1 else d)
def qdm(d:Int):1<=dX d/\dX d<=292195:=by
 unfold dX;split<;>split<;>omega
noncomputable def CU:Cx:=cx [(148,AD),(150,qv)] [(149,eF)]
def Y3:CxOK prog CU:=aP aG ⟨za6,qg4,uT⟩ ⟨JE,uT⟩
def BX(s e:Int):Fr (Oc (aa [i64])):=
 let a:=qv.f (s,1,365,());Jb (eF.bad (e,())) (Jv (Oc.pan (eF.pv (e,()))))
  (Jd (0<=s->(0:Int)<=1->s*1<18446744073709551616)
   (Jb (eF.bad (a.2.1,())) (Jv (Oc.pan (eF.pv (a.2.1,())))) (Jv (Oc.ok (a.1,())))))
def mZ(x:ag [.d bm,.d i64]):Fr (Oc (aa [i64])):=
 Jb (dX x.2.1==1) (Jv (Oc.ok (0,()))) (BX (AD.f (x.1,(1,dX x.2.1,()),())).1 (AD.f (x.1,(1,dX x.2.1,()),())).2.1)
def zcw:jz prog 90 ⟨[.d bm,.d i64],[i64],λxs=>(mZ xs).get.val,λxs=>(mZ xs).get.bad,λxs=>(mZ xs).get.pv,λxs=>[(mZ xs).ok]⟩:=
 Q0 Y3 (Λ:=bw) (fn:=f90) (([],[],()),0,()) (by kernel_rfl) (λc E hc=>aY c 0) (λxs=>by kernel_rfl)
def gN(s e:Int):Int×Int:=if e≠0 then (0,e)else if (cP s 1 365).2≠0 then (0,(cP s 1 365).2)else ((cP s 1 365).1,0)
def bT(f:bm.den)(d:Int):Int×Int:=if dX d=1 then (0,0)else gN (eo f (1,dX d,())).1 (eo f (1,dX d,())).2
def fP:Pc:=⟨[.d bm,.d i64],[i64],λx=>((bT x.1 x.2.1).1,()),λx=>!((bT x.1 x.2.1).2==0),λx=>⟨47,.i64,(bT x.1 x.2.1).2⟩,λ_=>[]⟩
def za3(f:bm.den)(s:cn.den):(eo f s).1<=4000000000000000000:=by
 unfold eo;split;rename_i h;obtain⟨_,_,_,i⟩:=Kz h.1;have m:=nc.1 h.2;have j:=Da i m.2.2 f.1 s.1 m.1 m.2.1;cases hq:em (eL f s.2.1 f.1 s.1) (0,0)with
 |none=>show(0:Int)<=_;decide
 |some q=>
  obtain⟨t,u,w,C⟩:=Lk j ⟨by decide,by decide,by decide,by decide⟩ hq;show q.1<=_;omega
 show(0:Int)<=_;decide
def qlg{s e:Int}(t:s<=4000000000000000000):(BX s e).ok/\(BX s e).get=if (gN s e).2=0 then Oc.ok ((gN s e).1,())else Oc.pan ⟨47,.i64,(gN s e).2⟩:=by
 by_cases q:e=0;subst q;have i:0<=s->(0:Int)<=1->s*1<18446744073709551616:=λ_ _=>by omega
 by_cases j:(cP s 1 365).2=0;have m:gN s 0=((cP s 1 365).1,0):=by
  unfold gN;rw[if_neg (λh=>h rfl),if_neg (λh=>h j)]
 have hb:eF.bad ((qv.f (s,1,365,())).2.1,())=false:=by
  show(!((cP s 1 365).2==0))=Y;rw[j];rfl
 rw[m];refine⟨⟨λhc=>(by cases hc),λ_=>⟨i,λ_=>uT,λ_=>uT⟩⟩,?_⟩;show(if eF.bad ((qv.f (s,1,365,())).2.1,())=Z then _ else Oc.ok ((cP s 1 365).1,()))=_;rw[hb];rfl;have m:gN s 0=(0,(cP s 1 365).2):=by
  unfold gN;rw[if_neg (λh=>h rfl),if_pos j]
 have hb:eF.bad ((qv.f (s,1,365,())).2.1,())=true:=by
  show(!((cP s 1 365).2==0))=Z;simp[j]
 rw[m];refine⟨⟨λhc=>(by cases hc),λ_=>⟨i,λ_=>uT,λ_=>uT⟩⟩,?_⟩;show(if eF.bad ((qv.f (s,1,365,())).2.1,())=Z then Oc.pan ⟨47,.i64,(cP s 1 365).2⟩else _)=_;rw[hb,if_pos rfl];exact(if_neg j).symm;have m:gN s e=(0,e):=by
  unfold gN;rw[if_pos q]
 have hb:eF.bad (e,())=true:=by
  show(!(e==0))=Z;simp[q]
 rw[m];refine⟨⟨λ_=>uT,λhc=>(by rw[hb]at hc;cases hc)⟩,?_⟩;show(if eF.bad (e,())=Z then Oc.pan ⟨47,.i64,e⟩else _)=_;rw[hb,if_pos rfl];exact(if_neg q).symm
def Wu:jz prog 90 fP:=
 OP zcw _ _ _ _ λw F xs vs q _=>by
  obtain⟨f,d,_⟩:=xs;have key:(mZ (f,d,())).ok/\(mZ (f,d,())).get=if (bT f d).2=0 then Oc.ok ((bT f d).1,())else Oc.pan ⟨47,.i64,(bT f d).2⟩:=by
   unfold bT;by_cases j:dX d=1;rw[if_pos j];have hb:(dX d==1)=true:=by simpa using j
   refine⟨⟨λ_=>uT,λhc=>(by rw[hb]at hc;cases hc)⟩,?_⟩;show(if (dX d==1)=Z then Oc.ok (0,())else _)=_;rw[hb];rfl;rw[if_neg j];have hb:(dX d==1)=false:=by simpa using j
   have m:=qlg (e:=(eo f (1,dX d,())).2) (za3 f (1,dX d,()));refine⟨⟨λhc=>(by rw[hb]at hc;cases hc),λ_=>m.1⟩,?_⟩;show(if (dX d==1)=Z then _ else (BX (eo f (1,dX d,())).1 (eo f (1,dX d,())).2).get)=_;rw[hb,if_neg (by decide),m.2]
  refine⟨key.1,?_,?_,?_⟩;show(mZ (f,d,())).get.bad=!((bT f d).2==0);rw[key.2];by_cases h:(bT f d).2=0;rw[if_pos h,h];rfl;rw[if_neg h];have:((bT f d).2==0)=false:=by simpa using h
  rw[this];rfl;intro hb;have i:=hb;have h:(bT f d).2=0:=by simpa using i
  show(mZ (f,d,())).get.val=((bT f d).1,());rw[key.2,if_pos h];rfl;intro hb;have i:=hb;have h:¬ (bT f d).2=0:=by simpa using i
  show(mZ (f,d,())).get.pv=_;rw[key.2,if_neg h];rfl
def qz1{old:Value}(h:w.heap[b]?= U (.cells #[old] ty (0,0))):w.setCell ⟨b,0,V⟩ v=w.setRow b #[v]:=by
 unfold World.setCell World.setRow;congr 1;apply uch;intro i;simp only[Array.getElem?_modify];by_cases hi:b=i;subst hi;rw[h];simp;simp[hi]
def VZ:TolOK prog 89 47 .i64:=by
 refine⟨enters (fn:=f89) (by kernel_rfl) rfl rfl,λp w=>?_,λb ty old n w hb=>?_⟩
 ·refine callsD_of_wpS func89 rfl λi cs j=>?_;simp only[ntmps89,ucp,uc7,udi,Nat.reduceAdd,Nat.reduceSub,ubm,ubn,ucx,ubw,udj,uc2];apply wpS_seq;apply wpS_region;simp[wpOpsS,go_sem,recoverD,j,Exit.thenS];refine wpS_of_wp ?_
  go_wp2
  cases i
  simp_all[bodyPostS,results,results89]
 ·have hc:w.cell? ⟨b,0,V⟩=U old:=aO hb 0;have hz:w.frozen? ⟨b,0,V⟩=false:=by simp[World.frozen?,hb]
  have m:∀ w,(Instr.typeAssert (.iface 47 (.int .i64 n)) 20 47 Z).run prog w=.ok (.tuple #[.int .i64 n,.bool Z]) w:=λ_=>by kernel_rfl
  refine callsD_of_wpS func89 rfl λi cs j=>?_;simp only[ntmps89,ucp,uc7,udi,Nat.reduceAdd,Nat.reduceSub,ubm,ubn,ucx,ubw,udj,uc2];apply wpS_seq;apply wpS_region;simp[wpOpsS,go_sem,recoverD,j,Exit.thenS];refine wpS_of_wp ?_
  go_wp2
  simp[bodyPostS,results,results89,qz1 hb]
def H8:(0:Int)<=0/\(0:Int)<=6:=by decide
def H9:(0:Int)<=1/\(1:Int)<=6:=by decide
def Ey:(0:Int)<=0/\(0:Int)<=4000000000000000000:=by decide
def PD:(0:Int)<=5/\(5:Int)<=6:=by decide
def qg0(a b c:Int):0<=(cP a b c).2/\(cP a b c).2<=6:=by
 unfold cP;split;exact⟨by decide,by decide⟩;split;exact⟨by decide,by decide⟩;split;exact PD;exact H8
def PL(a b c:Int)(hc:0<c):0<=(cP a b c).1/\(cP a b c).1<=4000000000000000000:=by
 unfold cP;split;exact⟨by decide,by decide⟩;rename_i h;split;exact⟨by decide,by decide⟩;split;exact⟨by decide,by decide⟩;have i:0<=a*b:=ud8 (by omega) (by omega);have hq:0<=a*b/c:=udh i (by omega);have:0<=jF (a*b) c:=by
  unfold jF;split<;>omega
 exact⟨this,by show jF (a*b) c<=_;omega⟩
def za2(f:bm.den)(s:cn.den):0<=(eo f s).2/\(eo f s).2<=6:=by
 unfold eo;split;cases em (eL f s.2.1 f.1 s.1) (0,0);exact PD;exact H8;exact⟨by decide,by decide⟩
def L8(f:bm.den)(d:Int):0<=(bT f d).2/\(bT f d).2<=6:=by
 unfold bT;split;exact⟨by decide,by decide⟩;unfold gN;split;exact za2 _ _;split;exact qg0 _ _ _;exact H8
def L9(f:bm.den)(d:Int):0<=(bT f d).1/\(bT f d).1<=4000000000000000000:=by
 unfold bT;split;exact Ey;unfold gN;split;exact Ey;split;exact Ey;exact PL _ _ _ (by decide)
def zcu(f:bm.den)(d:Int)(h:(bT f d).2≠0):(bT f d).1=0:=by
 unfold bT at *;split at h;exact absurd rfl h;rename_i m;rw[if_neg m];unfold gN at *;split at h;rename_i i;rw[if_pos i];rename_i i;rw[if_neg i];split at h;rename_i j;rw[if_pos j];exact absurd rfl h
def tS{n:Int}(h:0<=n/\n<=6):inR .i64 n:=by
 constructor;show(-9223372036854775808:Int)<=n;omega;show n<=(9223372036854775807:Int);omega
noncomputable def CP:Cx:=cx [] [(91,dW),(90,fP)]
def XK:CxOK prog CP:=aP aG trivial ⟨Pf,Wu,uT⟩
def dS(l:List aB.den)(d:Int):Int×Int:=if (iG l).isNone=Z then (0,1)else bT (cy l) d
def mE:Ct:=⟨[.d zel,.d i64],[i64,i64],λx=>((dS x.1 x.2.1).1,(dS x.1 x.2.1).2,()),λ_=>[]⟩
def qlh(x:ag [.d zel,.d i64]):Fr (aa [i64,i64]):=
 let b:=dW.pv (x.1,());let a:=((dW.f (x.1,())).1,x.2.1,());Jb (dW.bad (x.1,())) (Jd (inR .i64 b.n) (Jv (0,b.n,())))
  (Jb (fP.bad a)
   (Jd (inR .i64 (fP.pv a).n) (Jv (0,(fP.pv a).n,())))
   (Jv ((fP.f a).1,0,())))
def N4:af prog 61 mE:=
 conv (qfa XK (Λ:=bw) (fn:=f61) (fr:=qlh) (ps:=[.d zel,.d i64]) (rs:=[i64,i64]) ([],0,()) (by kernel_rfl) VZ (λc E _=>aY c 0) (λx=>by kernel_rfl)) _ _ λw F xs vs q _=>by
  obtain⟨l,d,_⟩:=xs;by_cases hc:(iG l).isNone=Z;have hb:dW.bad (l,())=true:=hc;refine⟨⟨λ_=>⟨tS H9,uT⟩,λh=>(by have i:dW.bad (l,())=false:=h;rw[hb]at i;cases i)⟩,?_⟩;show(if dW.bad (l,())=Z then ((0:Int),(1:Int),())else _)=((dS l d).1,(dS l d).2,());unfold dS;rw[hb,if_pos rfl,if_pos hc];have hb:dW.bad (l,())=false:=(by show(iG l).isNone=Y;exact ucy.2 hc);have m:dS l d=bT (cy l) d:=if_neg hc;refine⟨⟨λh=>(by have i:dW.bad (l,())=true:=h;rw[hb]at i;cases i),λ_=>⟨λ_=>⟨tS (L8 _ _),uT⟩,λ_=>uT⟩⟩,?_⟩;show(if dW.bad (l,())=Z then _ else if (!((bT (cy l) d).2==0))=Z then ((0:Int),(bT (cy l) d).2,())else ((bT (cy l) d).1,0,()))=((dS l d).1,(dS l d).2,());rw[hb,if_neg (by decide),m];by_cases j:(bT (cy l) d).2=0;rw[if_neg (by simp[j]),j];rw[if_pos (by simp[j]),zcu _ _ j]
def AH:Ct:=⟨[.d zel],[i64,i64],λx=>((dS x.1 292195).1,(dS x.1 292195).2,()),λ_=>[]⟩
def ZP:af prog 72 AH:=
 flat (ps:=[.d zel]) (rs:=[i64,i64]) (aP (cs:=[(61,mE)]) (ps:=[]) aG ⟨N4,uT⟩ trivial) (fn:=f72) (fr:=λx=>Jv ((mE.f (x.1,292195,())).1,(mE.f (x.1,292195,())).2.1,())) ([],()) (by kernel_rfl) (λx=>by kernel_rfl) _ _
  (λ_ _ x _ _ _=>⟨uT,rfl⟩)
def dg(f:bm.den):Int->Nat->Int
 |_,0=>0
 |a,n+1=>dz f a+dg f (a+1) n
def Px(f:bm.den):(m n:Nat)->(a:Int)->dg f a (m+n)=dg f a m+dg f (a+m) n
 |0,n,a=>by simp[dg]
 |m+1,n,a=>by
  have h:=Px f m n (a+1);rw[show m+1+n=(m+n)+1 by omega];simp only[dg];rw[h];have:a+1+(m:Int)=a+((m+1:Nat):Int):=by omega
  rw[this];omega
def H2{f:bm.den}(h:∀ d,0<=dz f d):(n:Nat)->(a:Int)->0<=dg f a n
 |0,a=>ue7 _
 |n+1,a=>by
  have:=H2 h n (a+1);have:=h a;simp only[dg];omega
def H1{f:bm.den}{v:Int}:(n:Nat)->(a:Int)->(∀ d,a<=d->d<a+n->dz f d=v)->dg f a n=n*v
 |0,a,_=>by simp[dg]
 |n+1,a,h=>by
  simp only[dg];rw[h a (by omega) (by omega),H1 n (a+1) (λd i j=>h d (by omega) (by omega))]
  grind
def qdz{d:Int}(i:a<=d)(h:∀ x∈l,x<=a\/d<x):tH l d=tH l a:=by
 unfold tH;apply List.countP_congr;intro x j;have:=h x j;simp only[uct];omega
def Ww{f:bm.den}{d:Int}(i:a<=d)(h:∀ x∈f.1,x<=a\/d<x):dz f d=dz f a:=by
 unfold dz;rw[qdz i h]
def zcx{f:bm.den}(h:∀ y∈f.2.1,0<=y)(d:Int):0<=dz f d:=by
 unfold dz;split;exact ue7 _;rename_i k _;rw[uah];cases i:f.2.1[k]? with
 |none=>simp
 |some y=>
  have:=h y (ubf i);simpa using this
def V8{s t b v:Int}(u:0<=v)(j:a<b)(q:t<=4000000000000000000):
  js (s,t) (a,b,v)=if t+(b-a)*v<=4000000000000000000 then U (s+(b-a)*v,t+(b-a)*v)else none:=by
 have m:max v (-v)=v:=by omega
 unfold js;simp only[m];have i:v>(4000000000000000000-t)/(b-a)↔¬ t+(b-a)*v<=4000000000000000000:=by
  have:=Int.le_ediv_iff_mul_le (a:=v) (b:=4000000000000000000-t) (c:=b-a) (by omega);rw[uex v]at this;omega
 by_cases h:t+(b-a)*v<=4000000000000000000;rw[if_neg (by rw[i];exact λhc=>hc h),if_pos h];rw[if_pos (i.2 h),if_neg h]
def Lj{f:bm.den}(F:∀ d,0<=dz f d){e:Int}:(l:List Int)->(a s t:Int)->l.Pairwise (· < ·)->(∀ x∈f.1,x<=a\/e<=x\/x∈l)->a<e->t<=4000000000000000000 ->
  em (eL f e l a) (s,t)=if t+dg f a (e-a).toNat<=4000000000000000000 then U (s+dg f a (e-a).toNat,t+dg f a (e-a).toNat)else V
 |[],a,s,t,_,hc,m,N=>by
  have H:dg f a (e-a).toNat=(e-a)*dz f a:=by
   rw[H1 (e-a).toNat a (λd j W=>Ww j (λx q=>by
    rcases hc x q with h|h|h
    exact .inl h;exact .inr (by omega);cases h))]
   congr 1;omega
  rw[H];simp only[eL,em];rw[V8 (F a) m N];split<;>rfl
 |d::l,a,s,t,hp,hc,m,N=>by
  obtain⟨S,w⟩:=ub9.1 hp;unfold eL;split;rename_i C;refine Lj F l a s t w (λx q=>?_) m N;rcases hc x q with h|h|h
  exact .inl h;exact .inr (.inl h);rcases uef.1 h with rfl|h
  rcases C with h|h
  exact .inl h;exact .inr (.inl h);exact .inr (.inr h);rename_i C;have u:a<d:=by omega
  have P:d<e:=by omega
  have H:dg f a (d-a).toNat=(d-a)*dz f a:=by
   rw[H1 (d-a).toNat a (λd' j W=>Ww j (λx q=>by
    rcases hc x q with h|h|h
    exact .inl h;exact .inr (by omega);rcases uef.1 h with rfl|h
    exact .inr (by omega);have:=S x h;exact .inr (by omega)))]
   congr 1;omega
  have i:dg f a (e-a).toNat=dg f a (d-a).toNat+dg f d (e-d).toNat:=by
   rw[show(e-a).toNat=(d-a).toNat+(e-d).toNat by omega,Px];congr 2;omega
  have hnn:=H2 F (e-d).toNat d;simp only[em];rw[V8 (F a) u N,<- H];by_cases j:t+dg f a (d-a).toNat<=4000000000000000000;rw[if_pos j];show em (eL f e l d) _=_;have O:∀ x∈f.1,x<=d\/e<=x\/x∈l:=λx q=>by
   rcases hc x q with h|h|h
   exact .inl (ue0 h (ueq u));exact .inr (.inl h);rcases uef.1 h with rfl|h
   exact .inl (ue7 _);exact .inr (.inr h)
  rw[Lj F l d _ _ w O P j];rw[i,Int.add_assoc,Int.add_assoc];have Q:¬ t+dg f a (e-a).toNat<=4000000000000000000:=by
   rw[i];clear H i;generalize dg f a (d-a).toNat=A at *;generalize dg f d (e-d).toNat=B at *;omega
  rw[if_neg j,if_neg Q];rfl
structure Pos (f:bm.den):Prop where
 right:jU f=true
 pos:∀ y∈f.2.1,0<=y
def Pos.val{f:bm.den}(h:Pos f)(d:Int):0<=dz f d:=zcx h.pos d
def za1{f:bm.den}(h:Pos f){e:Int}(q:1<=a)(j:a<e)(t:e<=292195):
  eo f (a,e,())=if dg f a (e-a).toNat<=4000000000000000000 then (dg f a (e-a).toNat,0)else (0,5):=by
 obtain⟨w,m,C,F⟩:=Kz h.right;have i:=Lj h.val (e:=e) f.1 a 0 0 m (λx u=>.inr (.inr u)) j (by decide);simp only[Int.zero_add]at i;unfold eo;rw[if_pos ⟨h.right,nc.2 ⟨q,j,t⟩⟩,i];by_cases hc:dg f a (e-a).toNat<=4000000000000000000;rw[if_pos hc,if_pos hc];rw[if_neg hc,if_neg hc]
def Sd(f:bm.den)(d:Int):Int:=dg f 1 (dX d-1).toNat
def qg1{p:Int}(h:0<=p):jF p 365=(p+182)/365:=by
 unfold jF;split<;>omega
def qgy{p:Int}(h:0<=p)(i:p<=4000000000000000000):cP p 1 365=((p+182)/365,0):=by
 unfold cP;rw[Int.mul_one,qg1 h,if_neg (by omega),if_neg (by decide),if_neg (by omega)]
def zcv{f:bm.den}(h:Pos f)(d:Int):bT f d=if Sd f d<=4000000000000000000 then ((Sd f d+182)/365,0)else (0,5):=by
 have hb:=qdm d;have j:=H2 h.val (dX d-1).toNat 1;unfold bT;by_cases i:dX d=1;rw[if_pos i];have:Sd f d=0:=by
  unfold Sd;rw[i];rfl
 rw[this,if_pos (by decide)];rfl;rw[if_neg i,za1 h (by decide) (by omega) hb.2];show gN _ _=_;unfold Sd;by_cases hc:dg f 1 (dX d-1).toNat<=4000000000000000000;rw[if_pos hc,if_pos hc];show gN (dg f 1 (dX d-1).toNat) 0=_;unfold gN;rw[if_neg (λh=>h rfl),qgy j hc,if_neg (λh=>h rfl)];rw[if_neg hc,if_neg hc];rfl
def K0{d v:Int}:{l r:List Int}->(i j:Int)->l.length=r.length ->
  ga (l++[d]) (r++[v]) i j=(ga l r i j&&(J (l.getLast?.getD i<d)&&(J (d<=292194)&&(!(v==r.getLast?.getD j)&&iQ v))))
 |[],[],i,j,_=>by
  show(_&&Z)=(Z&&_);rw[uej,uei];rfl
 |[],_::_,_,_,h=>by simp at h
 |_::_,[],_,_,h=>by simp at h
 |a::l,b::r,i,j,h=>by
  have m:=K0 (d:=d) (v:=v) a b (by simpa using h);simp only[uc2,ga];rw[m];have e1:(a::l).getLast?.getD i=l.getLast?.getD a:=by
   rw[List.getLast?_cons];rfl
  have e2:(b::r).getLast?.getD j=r.getLast?.getD b:=by
   rw[List.getLast?_cons];rfl
  rw[e1,e2];simp only[ud9]
structure Good (p:List Int×List Int) (m:Int):Prop where
 len:p.1.length=p.2.length
 up:ga p.1 p.2 0 0=true
 le:p.1.getLast?.getD 0<=m
 pos:∀ y∈p.2,0<=y
def QN(h:l.getLast?= U x):l=l.dropLast++[x]:=by
 cases l with
 |nil=>simp at h
 |cons a l=>
  injection h with h
  rw[<- h];exact(List.dropLast_concat_getLast (by simp)).symm
def Good.pop{p:List Int×List Int}{m:Int}(h:Good p m)(u:p.1.getLast?= U day):Good (p.1.dropLast,p.2.dropLast) (day-1)/\day<=m:=by
 obtain⟨at_,val⟩:=p;obtain⟨q,j,t,C⟩:=h;have e1:=QN u;cases w:val.getLast? with
 |none=>
  have:val=[]:=by simpa using w
  subst this;rw[e1]at q;simp at q
 |some y=>
  have e2:=QN w;have i:at_.dropLast.length=val.dropLast.length:=by simp[q]
  rw[e1,e2,K0 0 0 i]at j;simp at j;refine⟨⟨i,j.1,?_,λz hz=>C z ?_⟩,?_⟩;have:=j.2.1;show at_.dropLast.getLast?.getD 0<=day-1;omega;rw[e2];exact ubj _ hz;rw[u]at t;exact t
def Good.push{p:List Int×List Int}{m v:Int}(h:Good p m)(N:m<day)(i:day<=292194)(F:0<=v/\v<=4000000000000000000)(q:v≠p.2.getLast?.getD 0):Good (p.1++[day],p.2++[v]) day:=by
 obtain⟨t,u,H,w⟩:=h;refine⟨by simp[t],?_,by simp,λz hz=>?_⟩;show ga (p.1++[day]) (p.2++[v]) 0 0=Z;rw[K0 0 0 t,u];have C:iQ v=true:=SU.2 (by omega);have hb:(v==p.2.getLast?.getD 0)=false:=by simpa using q
 have j:p.1.getLast?.getD 0<day:=by omega
 simp[C,hb,j,i];rcases udp.1 hz with hz|hz
 exact w z hz;simp at hz;subst hz;exact F.1
def Good.mono{p:List Int×List Int}{m m':Int}(h:Good p m)(i:m<=m'):Good p m':=⟨h.len,h.up,ue0 h.le i,h.pos⟩
def Good.add{p:List Int×List Int}{m v:Int}(h:Good p m)(O:m<=day)(N:1<=day)(w:0<=v/\v<=4000000000000000000):Good (fK p day v) day:=by
 unfold fK;by_cases i:p.1.getLast?= U day;have u:=(h.pop i).1;simp only[i,if_true];split;rename_i hc;exact u.push (by omega) hc.2 w hc.1;exact u.mono (by omega);simp only[i,ufn];have q:p.1.getLast?.getD 0<=day-1:=by
  have j:=h.le;cases H:p.1.getLast? with
  |none=>show(0:Int)<=_;omega
  |some x=>
   rw[H]at j i;have F:x≠day:=λC=>i (by rw[C]);have t:x<=m:=j;show x<=_;omega
 have hg:Good p (day-1):=⟨h.len,h.up,q,h.pos⟩;split;rename_i hc;exact hg.push (by omega) hc.2 w hc.1;exact hg.mono (by omega)
def QL{s:aB.den}{e:Int}:ne s e=Z↔e<=s.1.1/\s.1.1<s.1.2.1/\s.1.2.1<=292195/\0<=s.2.2.2.2.1/\s.2.2.2.2.1<=4000000000000000000:=by
 simp[ne]
def Good.addS{p:List Int×List Int}{s:aB.den}{e:Int}(h:Good p e)(u:1<=e)(w:ne s e=Z):Good (addS p s) s.1.2.1:=by
 obtain⟨i,j,F,q,t⟩:=QL.1 w;have m:1<=s.1.1:=ue0 u i;have C:1<=s.1.2.1:=ue0 m (ueq j);exact(h.add i m ⟨q,t⟩).add (ueq j) C (by decide)
def qI:List aB.den->Int->List Int×List Int->Option (Int×(List Int×List Int))
 |[],e,p=>U (e,p)
 |s::l,e,p=>if ne s e=Z then qI l s.1.2.1 (addS p s)else V
def Pe:(l:List aB.den)->(e:Int)->(p:List Int×List Int)->gX l e p=(qI l e p).map (·.2)
 |[],_,_=>rfl
 |s::l,e,p=>by
  simp only[gX,qI];split;exact Pe l _ _;rfl
def Pd:{l:List aB.den} -> {e:Int} -> {p:List Int×List Int} -> {q:Int×(List Int×List Int)}->Good p e->1<=e->qI l e p=U q->Good q.2 q.1/\1<=q.1
 |[],e,p,q,h,i,hq=>by
  simp only[qI,uck]at hq;subst hq;exact⟨h,i⟩
 |s::l,e,p,q,h,i,hq=>by
  simp only[qI]at hq;split at hq;rename_i j;obtain⟨m,t,_⟩:=QL.1 j;have u:=ue0 (ue0 i m) (ueq t);exact Pd (h.addS i j) u hq;cases hq
def qms:Good ([],[]) 1:=⟨rfl,rfl,by show(0:Int)<=1;decide,by simp⟩
def qex{l:List aB.den}(h:(iG l).isNone=Y):Pos (cy l):=by
 unfold cy;unfold iG at *;split at h;rename_i i;rw[if_pos i];rw[Pe]at h |-;cases hq:qI l 1 ([],[])with
 |none=>rw[hq]at h;cases h
 |some q=>
  have hg:=(Pd qms (by decide) hq).1;show Pos (q.2.1,q.2.2,());refine⟨?_,hg.pos⟩;simp only[jU,hg.up,uej,uct];exact hg.len
 cases h
noncomputable def Xa:Cx:=cx [(100,jb)] []
def EF:CxOK prog Xa:=aP aG ⟨Ky,uT⟩ trivial
def IA(x:ag [.d dG]):Fr (aa [.bool]):=
 let a:=x.1.2;Jv (bif bif bif bif bif bif J (x.1.1>=0)then J (x.1.1<4)else Y then bif J (a.1>=1)then J (a.1<=1000000000000000)else Y else Y then J (a.2.1>=0)else Y then J (a.2.1<=200)else Y then J (a.2.2.1>=0)else Y then J (a.2.2.1<100)else Y,())
def qlz:af prog 104 (bg [.d dG] [.bool] IA):=
 aS EF f104
def I8(x:ag [.d i64]):Fr (aa [.bool]):=
 Jv (bif J (x.1>=1)then J (x.1<=292194)else Y,())
def qlm:af prog 108 (bg [.d i64] [.bool] I8):=
 aS EF f108
def QF(x:ag [.d cn]):Fr (aa [cn]):=
 Jb (bif !(jb.f ((x.1.1,x.1.2.1,()),())).1 then Z else x.1.1==x.1.2.1) (Jv ((0,0,()),())) (Jv ((x.1.1,x.1.2.1,()),()))
def qls:af prog 159 (bg [.d cn] [cn] QF):=
 aS EF f159
def n8(k v a z:Int):Bool:=J (0<=k/\k<4/\1<=v/\v<=1000000000000000/\0<=a/\a<=200/\0<=z/\z<100)
def oy:Ct:=⟨[.d dG],[.bool],λx=>(n8 x.1.1 x.1.2.1 x.1.2.2.1 x.1.2.2.2.1,()),λ_=>[]⟩
def K2:af prog 104 oy:=
 conv qlz _ _ (λ_ _ x _ _ _=>by
  obtain⟨⟨k,v,a,z,_⟩,_⟩:=x;refine⟨by simp[av,Fr.ok,IA],?_⟩;dsimp only[IA,Fr.get,n8,Ty.den,PT.den];simp only[ubx,ubb];congr 1;rw[udu];simp only[uda,udq,uct];omega)
def o7(p l g d s:Int):Bool:=J (0<=p/\p<8/\1<=s/\s<=10000/\0<=d/\d<l/\l<=g/\g<=1000000000000000)
def j6:Ct:=⟨[.d ak],[.bool],λx=>(o7 x.1.1 x.1.2.1 x.1.2.2.1 x.1.2.2.2.1 x.1.2.2.2.2.1,()),λ_=>[]⟩
def g8(d:Int):Bool:=J (1<=d/\d<=292194)
def tl:Ct:=⟨[.d i64],[.bool],λx=>(g8 x.1,()),λ_=>[]⟩
def Pk:af prog 108 tl:=
 conv qlm _ _ (λ_ _ x _ _ _=>by
  obtain⟨d,_⟩:=x;refine⟨by simp[av,Fr.ok,I8],?_⟩;dsimp only[I8,Fr.get,g8,Ty.den,PT.den];simp only[ubb];congr 1;rw[udu];simp only[uda,uct,ge_iff_le])
def gr(a b d:Int):Bool:=J (1<=a/\b<=292195/\a<=d/\d<b)
def fM:Ct:=⟨[.d cn,.d i64],[.bool],λx=>(gr x.1.1 x.1.2.1 x.2.1,()),λ_=>[]⟩
def rn(s:cn.den):cn.den:=if dN s=Z then s else (0,0,())
def tu:Ct:=⟨[.d cn],[cn],λx=>(rn x.1,()),λ_=>[]⟩
def qo2(a b:Int):((¬a>=1\/¬a<=b\/¬b<=292195)\/a=b)↔(¬a>=1\/¬a<b\/¬b<=292195):=by omega
def qoz(a b:Int):(bif !(jT (a,b,()))then Z else a==b)=!(dN (a,b,())):=by
 dsimp only[jT,dN,Ty.den,PT.den];simp only[ubx];rw[udu];simp only[uda,udq,ucu,Bool.and_eq_false_iff,uct,uav,ufe];exact qo2 a b
def qo1:af prog 159 tu:=
 conv qls _ _ (λ_ _ x _ _ _=>by
  obtain⟨⟨a,b,_⟩,_⟩:=x;refine⟨by simp[av,Fr.ok,QF],?_⟩;show(if (bif !(jT (a,b,()))then Z else a==b)=Z then (((0,0,()),()):cn.den×Unit)else ((a,b,()),()))=(if dN (a,b,())=Z then (a,b,())else (0,0,()),());rw[qoz];cases dN (a,b,())<;>rfl)
noncomputable def Xb:Cx:=cx [(159,tu)] []
def LR:CxOK prog Xb:=aP aG ⟨qo1,uT⟩ trivial
abbrev aV(T:Ty):PT:=.pf [T,T] [i64]
def aM{T:Ty}(g:(aV T).den)(x y:T.den):Bool:=J ((g.1 (x,y,())).1<0)
def jv{T:Ty}(g:(aV T).den)(l:List T.den):Prop:=∀ x∈l,∀ y∈l,g.2 (x,y,())
def jv.sub{T:Ty}{g:(aV T).den}{l s:List T.den}(h:jv g l)(i:∀ x∈s,x∈l):jv g s:=λx j y m=>h x (i x j) y (i y m)
def qna(h:i+j<=9223372036854775807):I6.wrap ((IntKind.u64.wrap (I6.wrap ((i:Int)+j))).fdiv (2 ^ min (Int.toNat 1) IntKind.u64.bits))=((i+j)/2:Nat):=by
 have m:I6.wrap ((i:Int)+j)=(i:Int)+j:=IntWalk.i64_in _ (by omega);have q:IntKind.u64.wrap ((i:Int)+j)=(i:Int)+j:=IntWalk.u64_in _ (by omega);have t:(2:Int) ^ min (Int.toNat 1) IntKind.u64.bits=2:=by decide
 rw[m,q,t,uag _ (by decide),IntWalk.i64_in _ (by omega)];omega
def Fo(h:i+j<=9223372036854775807):I6.wrap ((i:Int)+j)=(i+j:Nat):=by
 rw[IntWalk.i64_in _ (by omega)];omega
def zv(h:i+1<=9223372036854775807):I6.wrap ((i:Int)+1)=(i+1:Nat):=by
 rw[IntWalk.i64_in _ (by omega)];omega
def zu(h:j<=i)(m:i<=9223372036854775807):I6.wrap ((i:Int)-j)=(i-j:Nat):=by
 rw[IntWalk.i64_in _ (by omega)];omega
def Uk(h:1<=i)(j:i<=9223372036854775807):I6.wrap ((i:Int)-1)=(i-1:Nat):=by
 rw[IntWalk.i64_in _ (by omega)];omega
def ka{T:Ty}{l:List T.den}:(fx l T.dflt i j).length=l.length:=by simp[fx]
def VA{T:Ty}{l:List T.den}(hi:i<l.length)(t:j<l.length){x:T.den}(h:x∈fx l T.dflt i j):x∈l:=by
 unfold fx at h;have m:l.getD i T.dflt∈l:=fo hi;have q:l.getD j T.dflt∈l:=fo t;rcases uap h with h|rfl
 rcases uap h with h|rfl
 exact h;exact q;exact m
abbrev eO(e:TypeId)(T:Ty):Pt:=⟨53,2,⟨[(1,.d i64),(2,.d i64),(3,(aV T)),(8,.d i64),(9,.d i64)],[.al 10000 0,.o 0 e T]⟩,⟨[(1,.d i64),(2,.d i64),(3,(aV T)),(8,.d i64)],[.al 10000 0,.o 0 e T]⟩,⟨[],[]⟩⟩
noncomputable def dB:Cx:=cx [] []
def aH:CxOK prog dB:=aP aG trivial trivial
def xI(e:TypeId)(T:Ty)(x:(eO e T).M.X):Fr (eO e T).Out:=
 let a:=x.1.1;let j:=x.1.2.2.2.2.1;let g:=x.1.2.2.1;let l:=x.2.1
 Jd (J (j>a)=Z->0<=j/\j<l.length)
  (Jd (J (j>a)=Z->j.toNat<l.length)
   (Jd (J (j>a)=Z->0<=I6.wrap (j-1)/\I6.wrap (j-1)<l.length)
    (Jd (J (j>a)=Z->(I6.wrap (j-1)).toNat<l.length)
     (Jd (J (j>a)=Z->g.2 (l.getD j.toNat T.dflt,l.getD (I6.wrap (j-1)).toNat T.dflt,()))
      (Jb (bif J (j>a)then J ((g.1 (l.getD j.toNat T.dflt,l.getD (I6.wrap (j-1)).toNat T.dflt,())).1<0)else Y)
       (Jd (0<=I6.wrap (j-1)/\I6.wrap (j-1)<l.length)
        (Jd ((I6.wrap (j-1)).toNat<l.length)
         (Jd (0<=j/\j<l.length)
          (Jd (j.toNat<l.length)
           (Jd (0<=j/\j<l.length)
            (Jd (j.toNat<l.length)
             (Jd (0<=I6.wrap (j-1)/\I6.wrap (j-1)<(l.set j.toNat (l.getD (I6.wrap (j-1)).toNat T.dflt)).length)
              (Jd ((I6.wrap (j-1)).toNat<(l.set j.toNat (l.getD (I6.wrap (j-1)).toNat T.dflt)).length)
               (Jv (Rd.next ((a,x.1.2.1,(g.1,g.2),x.1.2.2.2.1,I6.wrap (j-1),()),
                ((l.set j.toNat (l.getD (I6.wrap (j-1)).toNat T.dflt)).set (I6.wrap (j-1)).toNat (l.getD j.toNat T.dflt),()))))))))))))
       (Jv (Rd.out ((a,x.1.2.1,(g.1,g.2),x.1.2.2.2.1,()),(l,())))))))))
structure InvInsI {T:Ty} (a j:Int) (g:(aV T).den) (l:List T.den):Prop where
 a0:0<=a
 aj:a<=j
 jl:j<l.length
 big:(l.length:Int)<=9223372036854775807
 dom:jv g l
def sG(e:TypeId)(T:Ty)(x:(eO e T).M.X):Fr (eO e T).Out:=
 Jd (InvInsI x.1.1 x.1.2.2.2.2.1 x.1.2.2.1 x.2.1) (Jv (Rd.out ((x.1.1,x.1.2.1,x.1.2.2.1,x.1.2.2.2.1,()),(fp (aM x.1.2.2.1) T.dflt x.1.1.toNat x.1.2.2.2.2.1.toNat x.2.1,()))))
def qpr {T:Ty} (a b i j:Int) (g:(aV T).den) (l:List T.den) (w:InvInsI a j g l) (Q:(eO e T).Out->Prop)
  (hq:Q (Rd.out ((a,b,g,i,()),(fp (aM g) T.dflt a.toNat j.toNat l,())))):((xI e T) ((a,b,g,i,j,()),(l,()))).satP λ
   |.next t=>InvInsI t.1.1 t.1.2.2.2.2.1 t.1.2.2.1 t.2.1/\t.1.2.2.2.2.1.toNat<j.toNat/\((sG e T) t).satP Q
   |.out y=>Q (.out y)
   |.back z=>Q (.back z)
   |.pan p=>Q (.pan p):=by
 obtain⟨h0,W,h2,h3,N⟩:=w;obtain⟨u,rfl⟩:∃ n:Nat,a=n:=⟨a.toNat,by omega⟩;obtain⟨q,rfl⟩:∃ n:Nat,j=n:=⟨j.toNat,by omega⟩;dsimp only[xI,Fr.satP,Ty.den,PT.den];by_cases hj:u<q;obtain⟨k,rfl⟩:∃ k,q=k+1:=⟨q-1,by omega⟩;have C:k+1<l.length:=by omega
 have hw:I6.wrap (((k+1:Nat):Int)-1)=(k:Nat):=by rw[Uk (by omega) (by omega)];rfl
 have F:J (((k+1:Nat):Int)>(u:Int))=true:=ud7 (by omega);have P:((k+1:Nat):Int).toNat=k+1:=rfl;have S:((k:Nat):Int).toNat=k:=rfl;rw[hw,F,P,S];simp only[udl];refine⟨λ_=>⟨by omega,by omega⟩,λ_=>by omega,λ_=>⟨by omega,by omega⟩,λ_=>by omega,λ_=>N _ (fo C) _ (fo (by omega)),λhc=>?_,λhc=>?_⟩;refine⟨⟨by omega,by omega⟩,by omega,⟨by omega,by omega⟩,by omega,⟨by omega,by omega⟩,by omega,⟨by omega,by omega⟩,by omega,?_⟩;have O:InvInsI u k g (fx l T.dflt (k+1) k):=⟨by omega,by omega,by rw[ka];omega,by rw[ka];omega,N.sub λx H=>VA C (by omega) H⟩;refine⟨O,by omega,O,?_⟩;simp only[ucz,fp]at hq |-;rw[if_pos (by omega)]at hq;have m:aM g (l.getD (k+1) T.dflt) (l.getD k T.dflt)=true:=hc;rw[m]at hq;exact hq;simp only[ucz,fp]at hq;rw[if_pos (by omega)]at hq;have m:aM g (l.getD (k+1) T.dflt) (l.getD k T.dflt)=false:=hc;rw[m]at hq;exact hq;have F:J ((q:Int)>(u:Int))=false:=uds (by omega);rw[F];refine⟨λh=>(by cases h),λh=>(by cases h),λh=>(by cases h),λh=>(by cases h),λh=>(by cases h),λhc=>(by cases hc),λ_=>?_⟩;have H:fp (aM g) T.dflt u q l=l:=by
  cases q with
  |zero=>rfl
  |succ k=>simp only[fp];rw[if_neg (by omega)]
 simp only[ucz,H]at hq;exact hq
def S5{T:Ty}{c:Code}(q:ae P c (eO e T).M (eO e T) (xI e T)):ae P (.loop c) (eO e T).M (eO e T) (sG e T):=by
 refine ae.loop (n:=53) (id:=2) q (inv:=λx=>InvInsI x.1.1 x.1.2.2.2.2.1 x.1.2.2.1 x.2.1) (μ:=λx=>x.1.2.2.2.2.1.toNat) ?_ (λx Q h=>h.1);rintro⟨⟨a,b,g,i,j,_⟩,⟨l,_⟩⟩ m Q hq;exact qpr a b i j g l m Q hq.2
abbrev eP(e:TypeId)(T:Ty):Pt:=⟨53,0,⟨[(1,.d i64),(2,.d i64),(3,(aV T)),(8,.d i64)],[.al 10000 0,.o 0 e T]⟩,⟨[],[.al 10000 0,.o 0 e T]⟩,⟨[],[]⟩⟩
def xJ(e:TypeId)(T:Ty)(x:(eP e T).M.X):Fr (eP e T).Out:=
 let a:=x.1.1;let b:=x.1.2.1;let g:=x.1.2.2.1;let i:=x.1.2.2.2.1;let l:=x.2.1
 Jb (J (i<b))
  (Jd (InvInsI a i (g.1,g.2) l) (Jv (Rd.next ((a,b,(g.1,g.2),I6.wrap (i+1),()),(fp (aM (g.1,g.2)) T.dflt a.toNat i.toNat l,())))))
  (Jv (Rd.out ((),(l,()))))
def RL{T:Ty}{lt:T.den->T.den->Bool}{a:Nat}:(j:Nat) -> {l:List T.den}->j<l.length->∀ x∈fp lt T.dflt a j l,x∈l
 |0,_,_,_,h=>h
 |j+1,l,i,x,h=>by
  simp only[fp]at h;split at h;cases hc:lt (l.getD (j+1) T.dflt) (l.getD j T.dflt)with
  |true=>
   rw[hc]at h;exact VA i (by omega) (RL j (by rw[ka];omega) x h)
  |false=>
   rw[hc]at h;exact h
  exact h
def IX{T:Ty}{lt:T.den->T.den->Bool}{a:Nat}:(j:Nat) -> {l:List T.den}->(fp lt T.dflt a j l).length=l.length
 |0,_=>rfl
 |j+1,l=>by
  simp only[fp];split;cases lt (l.getD (j+1) T.dflt) (l.getD j T.dflt)with
  |true=>rw[cond_true,IX j,ka]
  |false=>rfl
  rfl
structure InvInsO {T:Ty} (a b i:Int) (g:(aV T).den) (l:List T.den):Prop where
 a0:0<=a
 ai:a<i
 bl:b<=l.length
 il:i<=9223372036854775807
 big:(l.length:Int)<=9223372036854775807
 dom:jv g l
def sH(e:TypeId)(T:Ty)(x:(eP e T).M.X):Fr (eP e T).Out:=
 Jd (InvInsO x.1.1 x.1.2.1 x.1.2.2.2.1 x.1.2.2.1 x.2.1) (Jv (Rd.out ((),(lI (aM x.1.2.2.1) T.dflt x.1.1.toNat (x.1.2.1-x.1.2.2.2.1).toNat x.1.2.2.2.1.toNat x.2.1,()))))
def qps {T:Ty} (a b i:Int) (g:(aV T).den) (l:List T.den) (m:InvInsO a b i g l) (Q:(eP e T).Out->Prop)
  (hq:Q (Rd.out ((),(lI (aM g) T.dflt a.toNat (b-i).toNat i.toNat l,())))):((xJ e T) ((a,b,g,i,()),(l,()))).satP λ
   |.next j=>InvInsO j.1.1 j.1.2.1 j.1.2.2.2.1 j.1.2.2.1 j.2.1/\(j.1.2.1-j.1.2.2.2.1).toNat<(b-i).toNat/\((sH e T) j).satP Q
   |.out y=>Q (.out y)
   |.back z=>Q (.back z)
   |.pan p=>Q (.pan p):=by
 obtain⟨h0,N,w,O,q,t⟩:=m;dsimp only[xJ,Fr.satP,Ty.den,PT.den];refine⟨λhi=>?_,λhi=>?_⟩;have F:=ucw hi;have hw:I6.wrap (i+1)=i+1:=IntWalk.i64_in _ (by omega);have u:InvInsO a b (i+1) g (fp (aM g) T.dflt a.toNat i.toNat l):=⟨h0,by omega,by rw[IX];exact w,by omega,by rw[IX];exact q,t.sub λx H=>RL _ (by omega) x H⟩;refine⟨⟨h0,by omega,by omega,q,t⟩,?_⟩;rw[hw];refine⟨u,by omega,u,?_⟩;have e1:(b-i).toNat=(b-(i+1)).toNat+1:=by omega
 have e2:(i+1).toNat=i.toNat+1:=by omega
 rw[e1]at hq;rw[e2];exact hq;have C:=ucg hi;have e1:(b-i).toNat=0:=by omega
 rw[e1]at hq;exact hq
def S6{T:Ty}{c:Code}(m:ae P c (eP e T).M (eP e T) (xJ e T)):ae P (.loop c) (eP e T).M (eP e T) (sH e T):=by
 refine ae.loop m (μ:=λx=>(x.1.2.1-x.1.2.2.2.1).toNat) ?_ (λx Q h=>h.1);rintro⟨⟨a,b,g,i,_⟩,⟨l,_⟩⟩ j Q hq;exact qps a b i g l j Q hq.2
def gR{T:Ty}(g:(aV T).den)(l:List T.den):Prop:=jv g l/\∃ key:T.den->Int,dd (aM g) key l
def gR.sub{T:Ty}{g:(aV T).den}{l s:List T.den}(h:gR g l)(i:∀ x∈s,x∈l):gR g s:=by
 obtain⟨j,key,m⟩:=h;exact⟨j.sub i,key,m.sub i⟩
noncomputable def kQ(e:TypeId)(T:Ty):Mt:=⟨e,T,[.d i64,.d i64,(aV T)],[],λl x=>(bA (aM x.2.2.1) x.1.toNat x.2.1.toNat l,()),λl x=>[0<=x.1,x.1<=x.2.1,x.2.1<=l.length,(l.length:Int)<=4611686018427387903,gR x.2.2.1 l]⟩
def xK(e:TypeId)(T:Ty)(l:List T.den)(x:ag [.d i64,.d i64,(aV T)]):Fr (List T.den×aa []):=
 let b:=(x.2.2.1.1,x.2.2.1.2);let a:=I6.wrap (x.1+1);Jd (InvInsO x.1 x.2.1 a b l)
  (Jv (lI (aM b) T.dflt x.1.toNat (x.2.1-I6.wrap (x.1+1)).toNat a.toNat l,()))
def RO{T:Ty}(l:List T.den)(xs:ag (kQ e T).ps)(i:l.length<=maxLen)(m:av ((kQ e T).ok l xs)):av [((xK e T) l xs).ok]/\((xK e T) l xs).get=(kQ e T).f l xs:=by
 obtain⟨a,b,g,rfl⟩:∃ (a b:Int) (g:(aV T).den),xs=(a,b,g,()):=⟨xs.1,xs.2.1,xs.2.2.1,rfl⟩;have j:(0:Int)<=a/\(a:Int)<=b/\(b:Int)<=(List.length (α:=T.den) l:Int)/\(List.length (α:=T.den) l:Int)<=4611686018427387903/\gR g l:=m;obtain⟨q,C,t,i,u,key,w⟩:=j;have hw:I6.wrap (a+1)=a+1:=IntWalk.i64_in _ (by omega);dsimp only[xK,Fr.ok,Fr.get,Ty.den,PT.den];rw[hw];refine⟨⟨⟨q,by omega,t,by omega,by omega,u⟩,uT⟩,?_⟩;have:=qn1 (key:=key) (lt:=aM g) (d:=T.dflt) (a:=a.toNat) (b:=b.toNat) (l:=l) (by omega) (by omega) w;show(lI (aM g) T.dflt a.toNat (b-(a+1)).toNat (a+1).toNat l,())=(bA (aM g) a.toNat b.toNat l,());rw[<- this,show(b-(a+1)).toNat=b.toNat-(a.toNat+1) by omega,show(a+1).toNat=a.toNat+1 by omega]
abbrev eX(e:TypeId)(T:Ty):Pt:=⟨38,0,⟨[(1,.d i64),(2,.d i64),(3,.d i64),(10,.d i64)],[.al 10000 0,.o 0 e T]⟩,⟨[],[.al 10000 0,.o 0 e T]⟩,⟨[],[]⟩⟩
def xU(e:TypeId)(T:Ty)(x:(eX e T).M.X):Fr (eX e T).Out:=
 let a:=x.1.1;let b:=x.1.2.1;let n:=x.1.2.2.1;let i:=x.1.2.2.2.1;let l:=x.2.1
 Jb (J (i<n))
  (Jd (0<=I6.wrap (b+i)/\I6.wrap (b+i)<l.length)
   (Jd ((I6.wrap (b+i)).toNat<l.length)
    (Jd (0<=I6.wrap (a+i)/\I6.wrap (a+i)<l.length)
     (Jd ((I6.wrap (a+i)).toNat<l.length)
      (Jd (0<=I6.wrap (a+i)/\I6.wrap (a+i)<l.length)
       (Jd ((I6.wrap (a+i)).toNat<l.length)
        (Jd (0<=I6.wrap (b+i)/\I6.wrap (b+i)<(l.set (I6.wrap (a+i)).toNat (l.getD (I6.wrap (b+i)).toNat T.dflt)).length)
         (Jd ((I6.wrap (b+i)).toNat<(l.set (I6.wrap (a+i)).toNat (l.getD (I6.wrap (b+i)).toNat T.dflt)).length)
          (Jv (Rd.next ((a,b,n,I6.wrap (i+1),()),
           ((l.set (I6.wrap (a+i)).toNat (l.getD (I6.wrap (b+i)).toNat T.dflt)).set (I6.wrap (b+i)).toNat (l.getD (I6.wrap (a+i)).toNat T.dflt),()))))))))))))
  (Jv (Rd.out ((),(l,()))))
structure InvSwp {T:Ty} (a b n i:Int) (l:List T.den):Prop where
 a0:0<=a
 b0:0<=b
 i0:0<=i
 al:a+n<=l.length
 bl:b+n<=l.length
 big:(l.length:Int)<=9223372036854775807
def sP(e:TypeId)(T:Ty)(x:(eX e T).M.X):Fr (eX e T).Out:=
 Jd (InvSwp x.1.1 x.1.2.1 x.1.2.2.1 x.1.2.2.2.1 x.2.1) (Jv (Rd.out ((),(e9 T.dflt (x.1.2.2.1-x.1.2.2.2.1).toNat (x.1.1+x.1.2.2.2.1).toNat (x.1.2.1+x.1.2.2.2.1).toNat x.2.1,()))))
def qp7 {T:Ty} (a b n i:Int) (l:List T.den) (m:InvSwp a b n i l) (Q:(eX e T).Out->Prop)
  (hq:Q (Rd.out ((),(e9 T.dflt (n-i).toNat (a+i).toNat (b+i).toNat l,())))):((xU e T) ((a,b,n,i,()),(l,()))).satP λ
   |.next j=>InvSwp j.1.1 j.1.2.1 j.1.2.2.1 j.1.2.2.2.1 j.2.1/\(j.1.2.2.1-j.1.2.2.2.1).toNat<(n-i).toNat/\((sP e T) j).satP Q
   |.out y=>Q (.out y)
   |.back z=>Q (.back z)
   |.pan p=>Q (.pan p):=by
 obtain⟨h0,t,N,O,P,S⟩:=m;dsimp only[xU,Fr.satP,Ty.den,PT.den];refine⟨λhi=>?_,λhi=>?_⟩;have w:=ucw hi;have C:I6.wrap (b+i)=b+i:=IntWalk.i64_in _ (by omega);have F:I6.wrap (a+i)=a+i:=IntWalk.i64_in _ (by omega);have H:I6.wrap (i+1)=i+1:=IntWalk.i64_in _ (by omega);rw[C,F,H];simp;refine⟨⟨by omega,by omega⟩,by omega,⟨by omega,by omega⟩,by omega,⟨by omega,by omega⟩,by omega,⟨by omega,by omega⟩,by omega,?_⟩;have q:InvSwp a b n (i+1) (fx l T.dflt (a+i).toNat (b+i).toNat):=⟨h0,t,by omega,by rw[ka];omega,by rw[ka];omega,by rw[ka];omega⟩;refine⟨q,by omega,q,?_⟩;rw[show(n-i).toNat=(n-(i+1)).toNat+1 by omega]at hq;rw[show(a+(i+1)).toNat=(a+i).toNat+1 by omega,show(b+(i+1)).toNat=(b+i).toNat+1 by omega];exact hq;have u:=ucg hi;rw[show(n-i).toNat=0 by omega]at hq;exact hq
def SE{T:Ty}{c:Code}(m:ae P c (eX e T).M (eX e T) (xU e T)):ae P (.loop c) (eX e T).M (eX e T) (sP e T):=by
 refine ae.loop m (μ:=λx=>(x.1.2.2.1-x.1.2.2.2.1).toNat) ?_ (λx Q h=>h.1);rintro⟨⟨a,b,n,i,_⟩,⟨l,_⟩⟩ j Q hq;exact qp7 a b n i l j Q hq.2
noncomputable def jL(e:TypeId)(T:Ty):Mt:=⟨e,T,[.d i64,.d i64,.d i64,(aV T)],[],λl x=>(e9 T.dflt x.2.2.1.toNat x.1.toNat x.2.1.toNat l,()),λl x=>[0<=x.1,0<=x.2.1,x.1+x.2.2.1<=l.length,x.2.1+x.2.2.1<=l.length]⟩
def Ca(e:TypeId)(T:Ty)(l:List T.den)(x:ag [.d i64,.d i64,.d i64,(aV T)]):Fr (List T.den×aa []):=
 Jd (InvSwp x.1 x.2.1 x.2.2.1 0 l) (Jv (e9 T.dflt (x.2.2.1-0).toNat (x.1+0).toNat (x.2.1+0).toNat l,()))
def VE{T:Ty}(l:List T.den)(xs:ag (jL e T).ps)(i:l.length<=maxLen)(m:av ((jL e T).ok l xs)):av [((Ca e T) l xs).ok]/\((Ca e T) l xs).get=(jL e T).f l xs:=by
 obtain⟨a,b,n,g,rfl⟩:∃ (a b n:Int) (g:(aV T).den),xs=(a,b,n,g,()):=⟨xs.1,xs.2.1,xs.2.2.1,xs.2.2.2.1,rfl⟩;have j:(0:Int)<=a/\(0:Int)<=b/\(a:Int)+n<=(List.length (α:=T.den) l:Int)/\(b:Int)+n<=(List.length (α:=T.den) l:Int):=m;obtain⟨q,t,u,w⟩:=j;simp only[maxLen]at i;refine⟨⟨⟨q,t,ue7 _,u,w,by omega⟩,uT⟩,?_⟩;show(e9 T.dflt (n-0).toNat (a+0).toNat (b+0).toNat l,())=(e9 T.dflt n.toNat a.toNat b.toNat l,());rw[ueo,ue1,ue1]
def At{Q:Nat->Bool}:(f m i j:Nat)->j-i<=f->j-i<=m->cp Q f i j=cp Q m i j
 |0,0,_,_,_,_=>rfl
 |0,m+1,i,j,h,_=>by simp only[cp];rw[if_neg (by omega)]
 |f+1,0,i,j,_,h=>by simp only[cp];rw[if_neg (by omega)]
 |f+1,m+1,i,j,h,q=>by
  simp only[cp];split;cases Q ((i+j)/2)with
  |true=>exact At f m _ _ (by omega) (by omega)
  |false=>exact At f m _ _ (by omega) (by omega)
  rfl
def FP{Q:Nat->Bool}(h:i<j):cp Q (j-i) i j=bif Q ((i+j)/2)then cp Q (j-((i+j)/2+1)) ((i+j)/2+1) j else cp Q ((i+j)/2-i) i ((i+j)/2):=by
 obtain⟨f,m⟩:∃ f,j-i=f+1:=⟨j-i-1,by omega⟩;rw[m];simp only[cp];rw[if_pos h];cases Q ((i+j)/2)with
 |true=>exact At _ _ _ _ (by omega) (by omega)
 |false=>exact At _ _ _ _ (by omega) (by omega)
def D4{d:α}:(f q i j:Nat)->(l:List α)->0<i->0<j->i+j<=f->i+j<=q->dH d m f i j l=dH d m q i j l
 |0,_,i,j,_,_,_,_,_=>by omega
 |f+1,0,i,j,_,_,_,_,_=>by omega
 |f+1,q+1,i,j,l,t,u,w,C=>by
  simp only[dH];split;rfl;split;exact D4 f q _ _ _ (by omega) (by omega) (by omega) (by omega);exact D4 f q _ _ _ (by omega) (by omega) (by omega) (by omega)
abbrev eR(e:TypeId)(T:Ty):Pt:=⟨58,0,⟨[(2,.d i64),(4,(aV T)),(10,.d i64),(11,.d i64)],[.al 10000 0,.o 0 e T]⟩,⟨[(2,.d i64),(4,(aV T)),(10,.d i64)],[.al 10000 0,.o 0 e T]⟩,⟨[],[]⟩⟩
noncomputable def xM(e:TypeId)(T:Ty)(x:(eR e T).M.X):Fr (eR e T).Out:=
 let m:=x.1.1;let g:=x.1.2.1;let i:=x.1.2.2.1;let j:=x.1.2.2.2.1;let l:=x.2.1
 Jb (i != j)
  (Jb (J (i>j))
   (Jd (0<=I6.wrap (m-i))
    (Jd (0<=m)
     (Jd (I6.wrap (m-i)+j<=(l.length:Int))
      (Jd (m+j<=(l.length:Int))
       (Jv (Rd.next ((m,(g.1,g.2),I6.wrap (i-j),j,()),(((jL e T).f l (I6.wrap (m-i),m,j,(g.1,g.2),())).1,()))))))))
   (Jd (0<=I6.wrap (m-i))
    (Jd (0<=I6.wrap (I6.wrap (m+j)-i))
     (Jd (I6.wrap (m-i)+i<=(l.length:Int))
      (Jd (I6.wrap (I6.wrap (m+j)-i)+i<=(l.length:Int))
       (Jv (Rd.next ((m,(g.1,g.2),i,I6.wrap (j-i),()),(((jL e T).f l (I6.wrap (m-i),I6.wrap (I6.wrap (m+j)-i),i,(g.1,g.2),())).1,())))))))))
  (Jv (Rd.out ((m,(g.1,g.2),i,()),(l,()))))
def zj7{T:Ty}:(n a b:Nat)->(l:List T.den)->(e9 T.dflt n a b l).length=l.length
 |0,_,_,_=>rfl
 |n+1,a,b,l=>by simp only[e9];rw[zj7 n,ka]
structure InvRot {T:Ty} (m i j:Int) (l:List T.den):Prop where
 i0:0<i
 j0:0<j
 im:i<=m
 ml:m+j<=l.length
 big:(l.length:Int)<=4611686018427387903
def sJ(e:TypeId)(T:Ty)(x:(eR e T).M.X):Fr (eR e T).Out:=
 Jd (InvRot x.1.1 x.1.2.2.1 x.1.2.2.2.1 x.2.1) (Jv (Rd.out ((x.1.1,x.1.2.1,((dH T.dflt x.1.1.toNat (x.1.2.2.1.toNat+x.1.2.2.2.1.toNat) x.1.2.2.1.toNat x.1.2.2.2.1.toNat x.2.1).1:Nat),()),
  ((dH T.dflt x.1.1.toNat (x.1.2.2.1.toNat+x.1.2.2.2.1.toNat) x.1.2.2.1.toNat x.1.2.2.2.1.toNat x.2.1).2,()))))
def qp0 {T:Ty} (m i j:Int) (g:(aV T).den) (l:List T.den) (u:InvRot m i j l) (Q:(eR e T).Out->Prop)
  (hq:Q (Rd.out ((m,g,((dH T.dflt m.toNat (i.toNat+j.toNat) i.toNat j.toNat l).1:Nat),()),((dH T.dflt m.toNat (i.toNat+j.toNat) i.toNat j.toNat l).2,())))):((xM e T) ((m,g,i,j,()),(l,()))).satP λ
   |.next q=>InvRot q.1.1 q.1.2.2.1 q.1.2.2.2.1 q.2.1/\q.1.2.2.1.toNat+q.1.2.2.2.1.toNat<i.toNat+j.toNat/\((sJ e T) q).satP Q
   |.out y=>Q (.out y)
   |.back z=>Q (.back z)
   |.pan p=>Q (.pan p):=by
 obtain⟨h0,C,F,h3,h4⟩:=u;obtain⟨f,N⟩:∃ f,i.toNat+j.toNat=f+1:=⟨i.toNat+j.toNat-1,by omega⟩;have W:I6.wrap (m-i)=m-i:=IntWalk.i64_in _ (by omega);have w2:I6.wrap (i-j)=i-j:=IntWalk.i64_in _ (by omega);have w3:I6.wrap (m+j)=m+j:=IntWalk.i64_in _ (by omega);have w4:I6.wrap (m+j-i)=m+j-i:=IntWalk.i64_in _ (by omega);have w5:I6.wrap (j-i)=j-i:=IntWalk.i64_in _ (by omega);dsimp only[xM,Fr.satP,Ty.den,PT.den,jL];rw[W,w2,w3,w4,w5];rw[N]at hq;simp only[dH]at hq;refine⟨λhc=>⟨λw=>?_,λw=>?_⟩,λhc=>?_⟩;have O:i>j:=ucw w;rw[if_neg (by omega),if_pos (by omega)]at hq;have t:InvRot m (i-j) j (e9 T.dflt j.toNat (m-i).toNat m.toNat l):=⟨by omega,C,by omega,by rw[zj7];omega,by rw[zj7];omega⟩;refine⟨by omega,by omega,by omega,by omega,t,by omega,t,?_⟩;dsimp only[Ty.den,PT.den];rw[D4 _ f (i-j).toNat j.toNat _ (by omega) (by omega) (ue6 _) (by omega),show(i-j).toNat=i.toNat-j.toNat by omega,show(m-i).toNat=m.toNat-i.toNat by omega];exact hq;have P:¬ i>j:=ucg w;have S:i≠j:=by simpa using hc
 rw[if_neg (by omega),if_neg (by omega)]at hq;have t:InvRot m i (j-i) (e9 T.dflt i.toNat (m-i).toNat (m+j-i).toNat l):=⟨h0,by omega,F,by rw[zj7];omega,by rw[zj7];omega⟩;refine⟨by omega,by omega,by omega,by omega,t,by omega,t,?_⟩;dsimp only[Ty.den,PT.den];rw[D4 _ f i.toNat (j-i).toNat _ (by omega) (by omega) (ue6 _) (by omega),show(j-i).toNat=j.toNat-i.toNat by omega,show(m-i).toNat=m.toNat-i.toNat by omega,show(m+j-i).toNat=m.toNat+j.toNat-i.toNat by omega];exact hq;have H:i=j:=by simpa using hc
 rw[if_pos (by omega)]at hq;have:((i.toNat:Nat):Int)=i:=by omega
 rw[this]at hq;exact hq
def S8{T:Ty}{c:Code}(t:ae P c (eR e T).M (eR e T) (xM e T)):ae P (.loop c) (eR e T).M (eR e T) (sJ e T):=by
 refine ae.loop (n:=58) (id:=0) t (inv:=λx=>InvRot x.1.1 x.1.2.2.1 x.1.2.2.2.1 x.2.1) (μ:=λx=>x.1.2.2.1.toNat+x.1.2.2.2.1.toNat) ?_ (λx Q h=>h.1);rintro⟨⟨m,g,i,j,_⟩,⟨l,_⟩⟩ q Q hq;exact qp0 m i j g l q Q hq.2
def K4{T:Ty}{m:Nat}:(f i j:Nat)->(l:List T.den)->0<i->0<j->i+j<=f->0<(dH T.dflt m f i j l).1/\(dH T.dflt m f i j l).1<=i/\(dH T.dflt m f i j l).1<=j/\(dH T.dflt m f i j l).2.length=l.length
 |0,i,j,l,_,_,_=>by omega
 |f+1,i,j,l,q,t,u=>by
  simp only[dH];split;exact⟨q,ue6 _,by omega,rfl⟩;split;have:=K4 (m:=m) f (i-j) j (e9 T.dflt j (m-i) m l) (by omega) t (by omega);rw[zj7]at this;omega;have:=K4 (m:=m) f i (j-i) (e9 T.dflt i (m-i) (m+j-i) l) q (by omega) (by omega);rw[zj7]at this;omega
noncomputable def pb(e:TypeId)(T:Ty):Mt:=⟨e,T,[.d i64,.d i64,.d i64,(aV T)],[],λl x=>(pC T.dflt x.1.toNat x.2.1.toNat x.2.2.1.toNat l,()),λl x=>[0<=x.1,x.1<x.2.1,x.2.1<x.2.2.1,x.2.2.1<=l.length,(l.length:Int)<=4611686018427387903]⟩
def U8{T:Ty}(m i j:Int)(l:List T.den):Int:=((dH T.dflt m.toNat (i.toNat+j.toNat) i.toNat j.toNat l).1:Nat)
def U9{T:Ty}(m i j:Int)(l:List T.den):List T.den:=(dH T.dflt m.toNat (i.toNat+j.toNat) i.toNat j.toNat l).2
noncomputable def xN(e:TypeId)(T:Ty)(l:List T.den)(x:ag [.d i64,.d i64,.d i64,(aV T)]):Fr (List T.den×aa []):=
 let a:=x.1;let m:=x.2.1;let b:=x.2.2.1;let g:=x.2.2.2.1
 let i:=U8 m (I6.wrap (m-a)) (I6.wrap (b-m)) l
 let r:=U9 m (I6.wrap (m-a)) (I6.wrap (b-m)) l
 Jd (InvRot m (I6.wrap (m-a)) (I6.wrap (b-m)) l)
 (Jd (0<=I6.wrap (m-i))
  (Jd (0<=m)
   (Jd (I6.wrap (m-i)+i<=(r.length:Int))
    (Jd (m+i<=(r.length:Int))
     (Jv (((jL e T).f r (I6.wrap (m-i),m,i,(g.1,g.2),())).1,()))))))
def UB{T:Ty}(l:List T.den)(xs:ag (pb e T).ps)(q:l.length<=maxLen)(j:av ((pb e T).ok l xs)):av [((xN e T) l xs).ok]/\((xN e T) l xs).get=(pb e T).f l xs:=by
 obtain⟨a,m,b,g,rfl⟩:∃ (a m b:Int) (g:(aV T).den),xs=(a,m,b,g,()):=⟨xs.1,xs.2.1,xs.2.2.1,xs.2.2.2.1,rfl⟩;have i:(0:Int)<=a/\(a:Int)<m/\(m:Int)<b/\(b:Int)<=(List.length (α:=T.den) l:Int)/\(List.length (α:=T.den) l:Int)<=4611686018427387903:=j;obtain⟨H,N,O,P,t⟩:=i;have w:I6.wrap (m-a)=m-a:=IntWalk.i64_in _ (by omega);have C:I6.wrap (b-m)=b-m:=IntWalk.i64_in _ (by omega);have u:=K4 (m:=m.toNat) ((m-a).toNat+(b-m).toNat) (m-a).toNat (b-m).toNat l (by omega) (by omega) (ue6 _);dsimp only[xN,Fr.ok,Fr.get,Ty.den,PT.den,jL,U8,U9];rw[w,C];have e1:pC T.dflt a.toNat m.toNat b.toNat l=e9 T.dflt (dH T.dflt m.toNat ((m-a).toNat+(b-m).toNat) (m-a).toNat (b-m).toNat l).1 (m.toNat-(dH T.dflt m.toNat ((m-a).toNat+(b-m).toNat) (m-a).toNat (b-m).toNat l).1) m.toNat (dH T.dflt m.toNat ((m-a).toNat+(b-m).toNat) (m-a).toNat (b-m).toNat l).2:=by
  unfold pC;rw[show b.toNat-a.toNat=(m-a).toNat+(b-m).toNat by omega,show m.toNat-a.toNat=(m-a).toNat by omega,show b.toNat-m.toNat=(b-m).toNat by omega]
 generalize dH T.dflt m.toNat ((m-a).toNat+(b-m).toNat) (m-a).toNat (b-m).toNat l=r at u e1 |-;have F:I6.wrap (m-(r.1:Int))=m-r.1:=IntWalk.i64_in _ (by omega);rw[F];refine⟨⟨⟨by omega,by omega,by omega,by omega,t⟩,by omega,by omega,by omega,by omega,uT⟩,?_⟩;show(e9 T.dflt (r.1:Int).toNat (m-r.1).toNat m.toNat r.2,())=(pC T.dflt a.toNat m.toNat b.toNat l,());rw[e1,show(r.1:Int).toNat=r.1 by omega,show(m-(r.1:Int)).toNat=m.toNat-r.1 by omega]
end Go.Proofs.YtdokapnnagbehaaGreat
