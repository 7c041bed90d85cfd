/-
  Parts of the proof, one behind the other.
-/
import Derived.Test.YtdokapnnagbehaaGreatMg
import Derived.Tactics2
import Derived.Laws.Pointers
set_option linter.all false
set_option maxRecDepth 100000
set_option maxHeartbeats 4000000
open Option renaming some->U,none->V
open Bool renaming true->Z,false->Y
open Decidable renaming decide->J
open Go Go.RowKit
variable {T α σ ρ β:Type} {P:Program} {ad:Addr} {arr cs cur:Array Value} {f:FuncId} {x a y day:Int} {k:IntKind} {l:List Int} {xs vs news:List Value} {off i n b c d j B m len:Nat} {F F' K:Nat->Prop} {R g R':Nat->Value->Prop} {o:Oper} {p:Prop} {e ety t ty el:TypeId} {v u vx:Value} {w w' W' W:World}
namespace Go.Proofs.YtdokapnnagbehaaGreat
open Go Go.Ab Go.RowKit Go.Proofs Go.Shelf Tryz
open Go.Ab.Fr renaming val->Jv,need->Jd,br->Jb
section
attribute [local go_sem] Oper.semAt_some
def SU{v:Int}:iQ v=Z ↔ -4000000000000000000<=v/\v<=4000000000000000000:=by simp[iQ]
def K1:{l r:List Int} -> {d v:Int}->ga l r d v=Z->l.length=r.length->l.Pairwise (· < ·)/\(∀ x∈l,d<x/\x<=292194)/\∀ y∈r,iQ y=Z
 |[],[],_,_,_,_=>⟨List.Pairwise.nil,by simp,by simp⟩
 |[],_::_,_,_,_,e=>by simp at e
 |_::_,[],_,_,_,e=>by simp at e
 |a::l,b::r,d,v,h,e=>by
  simp only[ga,udc,ucu]at h;obtain⟨⟨i,j,p,k⟩,m⟩:=h;obtain⟨n,g,o⟩:=K1 m (by simpa using e);refine⟨uca.2 ⟨λx c=>(g x c).1,n⟩,λx c=>?_,λy f=>?_⟩;rcases uei.1 c with rfl|c
  exact⟨i,j⟩;exact⟨Int.lt_trans i (g x c).1,(g x c).2⟩;rcases uei.1 f with rfl|f
  exact k;exact o y f
def Kz{f:bm.den}(h:jU f=Z):f.1.length=f.2.1.length/\f.1.Pairwise (· < ·)/\(∀ x∈f.1,0<x/\x<=292194)/\∀ y∈f.2.1,-4000000000000000000<=y/\y<=4000000000000000000:=by
 simp only[jU,udc,ucu]at h;obtain⟨a,b,c⟩:=K1 h.2 h.1;exact⟨h.1,a,b,λy d=>SU.1 (c y d)⟩
def Wv{f:bm.den}(h:∀ y∈f.2.1,-4000000000000000000<=y/\y<=4000000000000000000)(d:Int): -4000000000000000000<=dz f d/\dz f d<=4000000000000000000:=by
 unfold dz;split;omega;rename_i k _;rw[uah];cases a:f.2.1[k]? with
 |none=>simp
 |some y=>
  have:=h y (ubg a);simpa using this
def qm(x:Int×Int×Int):Prop:=1<=x.1/\x.1<x.2.1/\x.2.1<=292195 /\ -4000000000000000000<=x.2.2/\x.2.2<=4000000000000000000
def Da{f:bm.den}(h:∀ y∈f.2.1,-4000000000000000000<=y/\y<=4000000000000000000){e:Int}(i:e<=292195):(l:List Int)->(a:Int)->1<=a->a<e->∀ x∈eL f e l a,qm x
 |[],a,c,g,x,b=>by
  simp only[eL,ucf]at b;subst b;exact⟨c,g,i,Wv h a⟩
 |d::l,a,c,g,x,b=>by
  unfold eL at b;split at b;exact Da h i l a c g x b;rename_i j;rcases uei.1 b with rfl|b
  exact⟨c,by show a<d;omega,by show d<=292195;omega,Wv h a⟩;exact Da h i l d (by omega) (by omega) x b
abbrev jx:Type:={ x:Int×Int×Int // qm x }
def js(q:Int×Int)(x:Int×Int×Int):Option (Int×Int):=
 if max x.2.2 (-x.2.2)>(4000000000000000000-q.2)/(x.2.1-x.1)then V else U (q.1+(x.2.1-x.1)*x.2.2,q.2+(x.2.1-x.1)*max x.2.2 (-x.2.2))
def em:List (Int×Int×Int)->Int×Int->Option (Int×Int)
 |[],q=>U q
 |x::l,q=>(js q x).bind (em l)
def V5(l m:List (Int×Int×Int))(q:Int×Int):em (l++m) q=(em l q).bind (em m):=by
 induction l generalizing q with
 |nil=>rfl
 |cons x l a=>
  simp only[uc4,em];cases js q x with
  |none=>rfl
  |some b=>exact a b
def wD(q:Int×Int):Prop:=0<=q.2/\q.2<=4000000000000000000 /\ -q.2<=q.1/\q.1<=q.2
def V7{q d:Int×Int}{x:Int×Int×Int}(l:qm x)(h:js q x=U d)(k:wD q):wD d/\(x.2.1-x.1)*max x.2.2 (-x.2.2)<=4000000000000000000-q.2/\0<=(x.2.1-x.1)*max x.2.2 (-x.2.2) /\ -((x.2.1-x.1)*max x.2.2 (-x.2.2))<=(x.2.1-x.1)*x.2.2/\(x.2.1-x.1)*x.2.2<=(x.2.1-x.1)*max x.2.2 (-x.2.2):=by
 obtain⟨r,u,w,y,z⟩:=l;obtain⟨a,b,v⟩:=x;obtain⟨s,t⟩:=q;obtain⟨m,n,o,p⟩:=k;unfold js at h;split at h;cases h;rename_i A;cases h;simp only at *;have j:0<b-a:=by omega
 have c:max v (-v)<=(4000000000000000000-t)/(b-a):=by omega
 have e:(b-a)*max v (-v)<=4000000000000000000-t:=by
  have:=(Int.le_ediv_iff_mul_le j).1 c;rw[ue0];exact this
 have f:0<=(b-a)*max v (-v):=ueb (by omega) (by omega);have g:(b-a)*v<=(b-a)*max v (-v):=Int.mul_le_mul_of_nonneg_left (by omega) (by omega);have i : -((b-a)*max v (-v))<=(b-a)*v:=by
  rw[<- Int.mul_neg];exact Int.mul_le_mul_of_nonneg_left (by omega) (by omega)
 refine⟨⟨?_,?_,?_,?_⟩,e,f,i,g⟩<;>simp only<;>omega
def eo(f:bm.den)(s:cn.den):Int×Int:=
 if jU f=Z/\dN s=Z then match em (eL f s.2.1 f.1 s.1) (0,0)with
  |some q=>(q.1,0)
  |none=>(0,5)
 else (0,1)
def AD:Ct:=⟨[.d bm,.d cn],[i64,i64],λx=>((eo x.1 x.2.1).1,(eo x.1 x.2.1).2,()),λ_=>[]⟩
def qwh(n:Nat)(A a:Option Addr)(g b h c:Nat)(d f:Int)(w:World):
  CallsIn Fence.wide n prog 198 #[.agg #[.slice A g b,.slice a h c],.agg #[.int .i64 d,.int .i64 f]] w λe w'=>
   e=.returned (.func (.func 217) #[] #[.pointer (U ⟨w.heap.size+1,0,V⟩),.pointer (U ⟨w.heap.size,0,V⟩)]) /\
   w'=(w.alloc (.cells #[.slice A g b,.slice a h c] 219)).alloc (.cells #[.int .i64 d,.int .i64 f] 31):=by
 refine callsIn_of_wp func198 rfl trivial ?_ rfl;simp only[ntmps198,ucq,uc9,udl,Nat.reduceAdd,Nat.reduceSub,ubn,ubo,ucy,ubx,udm,uc4]
 gi_wp2
 go_ret
 exact⟨rfl,rfl⟩
def FM{ps:List PT}{g:ag ps->Bool}{ok:ag ps->List Prop}(h:af prog f ⟨ps,[.bool],λx=>(g x,()),ok⟩){xs:ag ps}(j:∀ b,F b->b<w.heap.size)(k:cJ prog w F ps xs vs)(c:av (ok xs)):
  Calls prog f vs.toArray w λe w'=>e=.returned (.bool (g xs))/\Below w.heap.size w w':=by
 refine(h.2 w F xs vs j k c).mono ?_;rintro e w' ⟨v,F',rfl,a,_,_,l⟩;have d:aE prog w' F' (λ_ _=>True) (dE .bool (g xs)) v:=fT l;have i:=d.2;exact⟨by rw[i],a⟩
structure Four (W:World) (z:Nat) (va vb x0 x1 x4 x5:Value):Prop where
 b0:W.heap[z]?= some (.cells #[va,vb] 219 (0,0))
 b1:W.heap[z+1]?= some (.cells #[x0,x1] 31 (0,0))
 b2:Boxed W (z+1+1) 3 x4
 b3:Boxed W (z+1+1+1) 47 x5
def Four.below{z:Nat}{b c d e f g:Value}(h:Four W z b c d e f g)(a:Below m W W')(i:z+3<m):Four W' z b c d e f g:=
 ⟨(a.block _ (by omega)).trans h.b0,(a.block _ (by omega)).trans h.b1,(a.block _ (by omega)).trans h.b2,(a.block _ (by omega)).trans h.b3⟩
def Four.cells{z:Nat}{a b c d e f:Value}(h:Four W z a b c d e f):
  W.cell? ⟨z,0,V⟩=U a/\W.cell? ⟨z,1,V⟩=U b/\W.cell? ⟨z+1,0,V⟩=U c/\W.cell? ⟨z+1,1,V⟩=U d /\
   W.cell? ⟨z+1+1,0,V⟩=U e/\W.frozen? ⟨z+1+1,0,V⟩=Y/\W.cell? ⟨z+1+1+1,0,V⟩=U f/\W.frozen? ⟨z+1+1+1,0,V⟩=false:=
 ⟨aO h.b0 0,aO h.b0 1,aO h.b1 0,aO h.b1 1,h.b2.cell,h.b2.frozen,h.b3.cell,h.b3.frozen⟩
def za5 (f:bm.den) (A k:Option Addr) (p m q n:Nat) (d g:Int) (w:World)
  (r:∀ W,Below w.heap.size w W->Calls prog 196 #[.agg #[.slice A p m,.slice k q n]] W λe w'=>e=.returned (.bool (jU f))/\Below W.heap.size W w')
  (v:∀ W,Calls prog 197 #[.agg #[.int .i64 d,.int .i64 g]] W λe w'=>e=.returned (.bool (dN (d,g,())))/\Below W.heap.size W w')
  (o:¬ (jU f=Z/\dN (d,g,())=Z)) :
  CallsIn Fence.wide 8 prog 148 #[.agg #[.slice A p m,.slice k q n],.agg #[.int .i64 d,.int .i64 g]] w λe w'=>e=.returned (.tuple #[.int .i64 0,.int .i64 1])/\Below w.heap.size w w':=by
 refine callsIn_of_wp func148 rfl trivial ?_ rfl;simp only[ntmps148,ucq,uc9,udl,Nat.reduceAdd,Nat.reduceSub,ubn,ubo,ucy,ubx,udm,uc4];generalize y:jU f=b1 at *;generalize c:dN (d,g,())=u at *;obtain⟨a,j,h⟩:=zj8 [.cells #[.slice A p m,.slice k q n] 219,.cells #[.int .i64 d,.int .i64 g] 31,.cells #[.int .i64 0] 3,.cells #[.int .i64 0] 47] w;simp only[als]at a j h;have x:Four _ w.heap.size _ _ _ _ _ _:=⟨h 0 _ rfl,h 1 _ rfl,h 2 _ rfl,h 3 _ rfl⟩;have j:=Nat.lt_of_lt_of_eq (Nat.lt_succ_self (w.heap.size+3)) j.symm;have l:=Lib.hid x;have i:=Lib.hid j;clear h;cases b1
 ·gi_wp2_with (refine⟨uT,?_⟩;gi_at_call 196;refine(callsIn_wide.2 (r _ a)).mono ?_;rintro e K ⟨rfl,b⟩;obtain⟨z,B,C,D,s,E,t,F⟩:=(l.out.below b i.out).cells)
  refine⟨uT,?_⟩
  gi_wp2
  refine ue1 (by simp[results,results148,go_sem,s,t]) rfl ⟨rfl,?_⟩;exact(((a.trans (b.mono (by simp;omega))).setCell (by simp;omega) _).setCell (by simp;omega) _)
 ·cases u
  ·gi_wp2_with (first|(refine⟨uT,?_⟩;gi_at_call 196;refine(callsIn_wide.2 (r _ a)).mono ?_;rintro e K ⟨rfl,b⟩;obtain⟨z,B,C,D,s,E,t,F⟩:=(l.out.below b i.out).cells)|(refine⟨uT,?_⟩;gi_at_call 197;refine(callsIn_wide.2 (v _)).mono ?_;rintro e R ⟨rfl,c⟩;obtain⟨L,M,N,O,G,P,H,Q⟩:=((l.out.below b i.out).below c (ucb i.out b.size)).cells))
   refine ue1 (by simp[results,results148,go_sem,G,H]) rfl ⟨rfl,?_⟩;exact((((a.trans (b.mono (by simp;omega))).trans (c.mono (ueo (a.trans (b.mono (by simp;omega))).size (ue9 _)))).setCell (by simp;omega) _).setCell (by simp;omega) _)
  exact absurd ⟨rfl,rfl⟩ o
def qwi(m:Nat)(N:1<=m)(f:bm.den)(A q:Option Addr)(r B s:Nat)(h t:Int)(all:List jx)(k:all.map Subtype.val=eL f t f.1 h)(p:f.1.length<=9223372036854775807)(y : -9223372036854775808<=h/\h<=9223372036854775807)(w:World)(e g:Nat)(d:World)(D:Below w.heap.size w d)(n:d.heap[e]?= U (.cells #[.slice A f.1.length r,.slice q B s] 219 (0,0)))(o:d.heap[g]?= U (.cells #[.int .i64 h,.int .i64 t] 31 (0,0)))(a:∀ W,Below w.heap.size w W->0<f.1.length->∃ b off,A=U ⟨b,off,V⟩/\b<w.heap.size/\∀ (i:Nat) (x:Int),f.1[i]?= U x->W.cell? ⟨b,off+i,V⟩=U (.int .i64 x) /\ -9223372036854775808<=x/\x<=9223372036854775807)(c:∀ W,Below w.heap.size w W->Ad f (.agg #[.slice A f.1.length r,.slice q B s]) W):
  SeqStopsK Fence.wide m prog 217 #[.pointer (U ⟨g,0,V⟩),.pointer (U ⟨e,0,V⟩)] (λx:jx=>TZ x.1) (cw w.heap.size e g) (λxs=>xs=all) (λC=>C <+: all) all.length d:=λl O F W v K L M u=>by
 have G:e<d.heap.size:=(uaf.1 n).1;have H:g<d.heap.size:=(uaf.1 o).1;have E:Below w.heap.size w W:=D.trans (v.mono D.size);refine qwg Subtype.val all m N l e g w.heap.size A r f.1 (.slice q B s) ⟨_,_,_,rfl⟩ h t f p y k O F W K E.size M (λW' z=>?_) u;have j:=E.trans z.1;exact⟨z.2.1.trans ((v.block _ G).trans n),z.2.2.trans ((v.block _ H).trans o),a W' j,c W' j⟩
def ZM(o:Option (Int×Int))(e:Ending):Prop:=match o with
 |some q=>e=.returned (.tuple #[.int .i64 q.1,.int .i64 0])
 |none=>e=.returned (.tuple #[.int .i64 0,.int .i64 5])
structure SumI (w:World) (z0 b4 b5 b6 b7:Nat) (pre:List jx) (W:World) (q:Int×Int):Prop where
 sum:em (pre.map Subtype.val) (0,0)=some q
 inv:wD q
 x6:Boxed W b6 3 (.int .i64 q.1)
 x7:Boxed W b7 3 (.int .i64 q.2)
 x4:Boxed W b4 3 (.int .i64 0)
 x5:Boxed W b5 47 (.int .i64 0)
 bel:Below w.heap.size w W
 sz:z0<=W.heap.size
structure SumX (w:World) (b4 b5:Nat) (c:Code) (pre:List jx) (W:World):Prop where
 ret:c=.ret
 sum:em (pre.map Subtype.val) (0,0)=none
 x4:Boxed W b4 3 (.int .i64 0)
 x5:Boxed W b5 47 (.int .i64 5)
 bel:Below w.heap.size w W
def iB{X d:World}{row:Option Nat}(h:Boxed X b t v)(a:X.grownBy d row)(c:∀ r,row=U r->B<=r/\∃ o:Obj,X.heap[r]?= U o/\o.isCells=Y):Boxed d b t v:=
 boxed_own b t (λ(_:Unit)=>v) () X d row h a (λr e=>(c r e).2)
def za0{m d f g i:Nat}(j:w.heap.size<=B):OwnFrom B (λc W=>∃ q,SumI w m d f g i c W q):=λc X n row l a b=>by
 obtain⟨q,h⟩:=l;exact⟨q,h.sum,h.inv,iB h.x6 a b,iB h.x7 a b,iB h.x4 a b,iB h.x5 a b,h.bel.grown a h.bel.size (λk e=>ueo j (b k e).1),ueo h.sz a.size⟩
def za4{f g:Nat}(i:w.heap.size<=B)(c:Code):OwnFrom B (λa W=>SumX w f g c a W):=λa X j row h b d=>
 ⟨h.ret,h.sum,iB h.x4 b d,iB h.x5 b d,h.bel.grown b h.bel.size (λk e=>ueo i (d k e).1)⟩
def N3(w0:Nat)(a:Int×Int×Int->Nat->Act)(x:jx)(c:Act)(W:World):Prop:=∃ b,w0<=b/\W.heap[b]?= U (.cells #[.int .i64 x.1.1,.int .i64 x.1.2.1] 31 (0,0))/\c=a x.1 b
def zaz{w0:Nat}{a:Int×Int×Int->Nat->Act}(x:jx)(f:Act):OwnFrom B (λ(_:Unit) W=>N3 w0 a x f W):=λ_ X m row l j k=>by
 obtain⟨b,g,c,h⟩:=l;refine⟨b,g,(j.block b (uaf.1 c).1 (λe=>?_)).trans c,h⟩;obtain⟨_,o,d,i⟩:=k b e.symm;rw[c]at d;cases d;cases i
def SM(v:Int):max v (-v)=if v < -v then -v else v:=by split<;>omega
def V9{a:List jx}{q:Int×Int}(h:em (a.map Subtype.val) (0,0)=U q)(x:jx):em ((a++[x]).map Subtype.val) (0,0)=js q x.1:=by
 rw[udw,V5,h];show(js q x.1).bind (em [])=_;cases js q x.1<;>rfl
def DD(W:World){k:Nat}(v:Value)(h:k≠b):(W.setCell ⟨b,0,V⟩ v).heap[k]?= W.heap[k]? := by
 by_cases a:k<W.heap.size;exact(grownBy_setCell' W b v).block k a (λe=>h (by cases e;rfl));rw[ua1 (by rw[ucg];omega),ua1 (by omega)]
def V4{n b c h i:Nat}{e:List jx}{s f g v:Int}(hi:SumI w n b c h i e W (s,a))(m:qm (f,g,v))(l:(4000000000000000000-a)/(g-f)<if v < -v then -v else v)(d:b≠c)(j:w.heap.size<=b)(k:w.heap.size<=c):
  SumX w b c .ret (e++[⟨(f,g,v),m⟩]) ((W.setCell ⟨b,0,V⟩ (.int .i64 0)).setCell ⟨c,0,V⟩ (.int .i64 5)):=by
 refine⟨rfl,?_,(hi.x4.set _).other d _,(hi.x5.other (Ne.symm d) _).set _,(hi.bel.setCell j _).setCell k _⟩;rw[V9 hi.sum];unfold js;rw[ufv];rw[SM];exact l
def V3{t i j d e:Nat}{h:List jx}{s b c v m:Int}(hi:SumI w t i j d e h W (s,a))(r:qm (b,c,v))(L:(if v < -v then -v else v)<=(4000000000000000000-a)/(c-b))(A:m=if v < -v then -v else v)(k:i≠d)(l:i≠e)(n:j≠d)(o:j≠e)(f:d≠e)(y:w.heap.size<=d)(z:w.heap.size<=e):
  SumI w t i j d e (h++[⟨(b,c,v),r⟩]) ((W.setCell ⟨d,0,V⟩ (.int .i64 (wrap64 (s+wrap64 ((c-b)*v))))).setCell ⟨e,0,V⟩ (.int .i64 (wrap64 (a+wrap64 ((c-b)*m))))) (s+(c-b)*v,a+(c-b)*max v (-v)):=by
 have q:js (s,a) (b,c,v)=U (s+(c-b)*v,a+(c-b)*max v (-v)):=by
  unfold js;rw[ufw];show ¬ max v (-v)>(4000000000000000000-a)/(c-b);omega
 have p:m=max v (-v):=by rw[SM];exact A
 obtain⟨g,F,G,H,K⟩:=V7 r q hi.inv;obtain⟨B,C,D,E⟩:=hi.inv;simp only at F G H K B C D E;subst p;have u:wrap64 (s+wrap64 ((c-b)*v))=s+(c-b)*v:=by
  rw[IntWalk.wrap64_in ((c-b)*v) (by omega),IntWalk.wrap64_in _ (by omega)]
 have x:wrap64 (a+wrap64 ((c-b)*max v (-v)))=a+(c-b)*max v (-v):=by
  rw[IntWalk.wrap64_in ((c-b)*max v (-v)) (by omega),IntWalk.wrap64_in _ (by omega)]
 rw[u,x];exact⟨by rw[V9 hi.sum];exact q,g,(hi.x6.set _).other f _,(hi.x7.other (Ne.symm f) _).set _,(hi.x4.other k _).other l _,(hi.x5.other n _).other o _,
  (hi.bel.setCell y _).setCell z _,by rw[ucg,ucg];exact hi.sz⟩
def Sl{a d e:Nat}(W:World)(u v:Value)(j:a<=b)(k:a<=c)(f:d≠b)(g:d≠c)(h:e≠b)(i:e≠c):cw a d e W ((W.setCell ⟨b,0,V⟩ u).setCell ⟨c,0,V⟩ v):=
 ⟨((ufi a W).setCell j _).setCell k _,(DD _ _ g).trans (DD _ _ f),(DD _ _ i).trans (DD _ _ h)⟩
def za7(f:bm.den)(A u:Option Addr)(C O E:Nat)(n F:Int)(w:World)(hR:∀ W,Below w.heap.size w W->Calls prog 196 #[.agg #[.slice A f.1.length C,.slice u O E]] W λe w'=>e=.returned (.bool Z)/\Below W.heap.size W w')(hF:∀ W,Calls prog 197 #[.agg #[.int .i64 n,.int .i64 F]] W λe w'=>e=.returned (.bool Z)/\Below W.heap.size W w')(all:List jx)(hall:all.map Subtype.val=eL f F f.1 n)(hlen:f.1.length<=9223372036854775807)(he0 : -9223372036854775808<=n/\n<=9223372036854775807)(N:∀ W,Below w.heap.size w W->0<f.1.length->∃ b off,A=U ⟨b,off,V⟩/\b<w.heap.size/\∀ (i:Nat) (x:Int),f.1[i]?= U x->W.cell? ⟨b,off+i,V⟩=U (.int .i64 x) /\ -9223372036854775808<=x/\x<=9223372036854775807)(hvals:∀ W,Below w.heap.size w W->Ad f (.agg #[.slice A f.1.length C,.slice u O E]) W):
  CallsIn Fence.wide 8 prog 148 #[.agg #[.slice A f.1.length C,.slice u O E],.agg #[.int .i64 n,.int .i64 F]] w λe w'=>ZM (em (all.map Subtype.val) (0,0)) e/\Below w.heap.size w w':=by
 refine callsIn_of_wp_marks func148 rfl trivial ?_ rfl;simp only[ntmps148,ucq,uc9,udl,Nat.reduceAdd,Nat.reduceSub,ubn,ubo,ucy,ubx,udm,uc4];obtain⟨G,hz,m⟩:=zj8 [.cells #[.slice A f.1.length C,.slice u O E] 219,.cells #[.int .i64 n,.int .i64 F] 31,.cells #[.int .i64 0] 3,.cells #[.int .i64 0] 47] w;simp only[als]at G hz m;have hS:Four _ w.heap.size _ _ _ _ _ _:=⟨m 0 _ rfl,m 1 _ rfl,m 2 _ rfl,m 3 _ rfl⟩;have hz:=Nat.lt_of_lt_of_eq (Nat.lt_succ_self (w.heap.size+3)) hz.symm;have HS:=Lib.hid hS;have HZ:=Lib.hid hz;clear hS hz m
 gi_wp2_with (first|(refine⟨uT,?_⟩;gi_at_call 196;refine(callsIn_wide.2 (hR _ G)).mono ?_;rintro e w1 ⟨rfl,T⟩;obtain⟨k0,k1,k2,k3,k4,k5,k6,k7⟩:=(HS.out.below T HZ.out).cells)|(refine⟨uT,?_⟩;gi_at_call 197;refine(callsIn_wide.2 (hF _)).mono ?_;rintro e d ⟨rfl,M⟩;have y:=Lib.hid ((HS.out.below T HZ.out).below M (ucb HZ.out T.size));have z:=Lib.hid (ucb (ucb HZ.out T.size) M.size);have HW3:=Lib.hid (y.out.below (((ufi d.heap.size d).alloc (ue9 _) (.cells #[.int .i64 0] 3)).alloc (by simp) (.cells #[.int .i64 0] 3)) z.out);obtain⟨m0,m1,m2,m3,m4,m5,m6,m7⟩:=y.out.cells;obtain⟨n0,n1,n2,n3,n4,n5,n6,n7⟩:=HW3.out.cells)|(refine⟨uT,?_⟩;gi_at_call 198;refine(qwh _ _ _ _ _ _ _ _ _ _).mono ?_;rintro e w3 ⟨rfl,rfl⟩))
 obtain⟨z2,hz2⟩:∃ z2,d.heap.size=z2:=⟨_,rfl⟩;have g:Below w.heap.size w d:=(G.trans (T.mono (by simp;omega))).trans (M.mono (ueo (by simp;omega) T.size))
 let L:List Obj:=[.cells #[.int .i64 0] 3,.cells #[.int .i64 0] 3,.cells #[.slice A f.1.length C,.slice u O E] 219,.cells #[.int .i64 n,.int .i64 F] 31]
 obtain⟨hbW,hsz,m⟩:=zj8 L d;have hW4:=y.out.below hbW z.out;have hzz:=z.out;show Code.wpIn _ _ _ _ _ _ (als d L);generalize als d L=S at *;replace hsz:S.heap.size=d.heap.size+4:=hsz;have r0:=m 0 _ rfl;have r1:=m 1 _ rfl;have r2:=m 2 _ rfl;have q3:=m 3 _ rfl;clear m;clear HW3 y z HS HZ G m0 m1 m2 m3 m4 m5 m6 m7 n0 n1 n2 n3 n4 n5 n6 n7 k0 k1 k2 k3 k4 k5 k6 k7;have t:Below w.heap.size w S:=g.trans (hbW.mono g.size);clear hbW T M hz2 g hR hF;have hzw:w.heap.size+3<S.heap.size:=by omega
 have hsz':d.heap.size+4<=S.heap.size:=by omega
 clear hsz;refine wpIn_rangeFunc_ownH rfl (by omega) (gf:=217) (lb:=#[.pointer (U ⟨d.heap.size+1+1+1,0,V⟩),.pointer (U ⟨d.heap.size+1+1,0,V⟩)]) rfl trivial (enters_of func217 (by kernel_rfl) rfl)
  (qwi 7 (by omega) f A u C O E n F all hall hlen he0 w (d.heap.size+1+1) (d.heap.size+1+1+1) S t r2 q3 N hvals)
  (λh k=>h.trans k) (λW l o o' hl ho hoc how=>⟨belowK_b (w:=w) (ue9 _) W l o o' (by omega) ho hoc how,World.putObj_heap_other (by omega),World.putObj_heap_other (by omega)⟩) (ufi _ _) (λ_=>rfl)
  (λj W=>∃ q,SumI w S.heap.size (w.heap.size+1+1) (w.heap.size+1+1+1) d.heap.size (d.heap.size+1) j W q)
  (λc j W=>SumX w (w.heap.size+1+1) (w.heap.size+1+1+1) c j W)
  (za0 (by omega)) (za4 (by omega)) ⟨(0,0),rfl,⟨by decide,by decide,by decide,by decide⟩,r0,r1,hW4.b2,hW4.b3,t,ue9 _⟩
  (N3 S.heap.size (λx Bx=>{ tmps:=#[.agg #[.slice A f.1.length C,.slice u O E],.agg #[.int .i64 n,.int .i64 F],.pointer (U ⟨w.heap.size,0,V⟩),.pointer (U ⟨w.heap.size+1,0,V⟩),.pointer (U ⟨w.heap.size+1+1,0,V⟩),.pointer (U ⟨w.heap.size+1+1+1,0,V⟩),.pointer (U ⟨d.heap.size,0,V⟩),.pointer (U ⟨d.heap.size+1,0,V⟩),.pointer (U ⟨Bx,0,V⟩),.int .i64 x.2.2,undef,undef,
   .agg #[.slice A f.1.length C,.slice u O E],.bool Z,.bool Y,.bool Y,.agg #[.int .i64 n,.int .i64 F],.bool Z,.bool Y,.bool Y,.agg #[.slice A f.1.length C,.slice u O E],.agg #[.int .i64 n,.int .i64 F],.func (.func 217) #[] #[.pointer (U ⟨d.heap.size+1+1+1,0,V⟩),.pointer (U ⟨d.heap.size+1+1,0,V⟩)],
   .agg #[.int .i64 x.1,.int .i64 x.2.1],.int .i64 x.2.2,undef,undef,undef,undef,undef,undef,undef,undef,undef,undef,undef,undef,undef,undef,undef,undef,undef,undef,undef,undef,undef,undef,undef,undef,undef,undef],defers:=[] }))
  zaz ?assign ?body ?done ?stop
 case assign=>
  rintro l j x W K ⟨q,hi⟩ R;obtain⟨⟨P,Q,v⟩,hx⟩:=x
  gi_wp2
  have hsz1:=hi.sz;exact R _ _ ((KeepsOthers.alloc _ _).from _) (cw.below ((ufi _ W).alloc (ue9 _) _) hi.bel.size (by omega) (by omega))
   ⟨q,hi.sum,hi.inv,hi.x6.alloc _,hi.x7.alloc _,hi.x4.alloc _,hi.x5.alloc _,hi.bel.alloc hi.bel.size _,by simp;omega⟩ ⟨W.heap.size,hsz1,World.alloc_heap_new W _,rfl⟩
 case body=>
  rintro l j x a' W hl ⟨r,hr⟩ ⟨q,hi⟩ ⟨Bx,hBx,bX,rfl⟩ hlt;obtain⟨⟨P,Q,v⟩,hx⟩:=x;obtain⟨s,a⟩:=q;have hx':1<=P/\P<Q/\Q<=292195 /\ -4000000000000000000<=v/\v<=4000000000000000000:=hx;obtain⟨y1,y2,y3,y4,y5⟩:=hx';have hinv:0<=a/\a<=4000000000000000000 /\ -a<=s/\s<=a:=hi.inv;obtain⟨i1,i2,i3,i4⟩:=hinv;have B:W.heap[Bx]?= U (.cells #[.int .i64 P,.int .i64 Q] 31 (0,0)):=bX;have cX0:W.cell? ⟨Bx,0,V⟩=U (.int .i64 P):=aO B 0;have cX1:W.cell? ⟨Bx,1,V⟩=U (.int .i64 Q):=aO B 1;have c6:W.cell? ⟨d.heap.size,0,V⟩=U (.int .i64 s):=hi.x6.cell;have c7:W.cell? ⟨d.heap.size+1,0,V⟩=U (.int .i64 a):=hi.x7.cell;have f6:=hi.x6.frozen;have f7:=hi.x7.frozen;have c4:=hi.x4.cell;have f4:=hi.x4.frozen;have c5:=hi.x5.cell;have f5:=hi.x5.frozen;have HB:=Lib.hid B;clear bX B hr
  gi_wp2
  have hc:(4000000000000000000-a)/(Q-P)<if v < -v then -v else v:=by assumption
  exact⟨((KeepsOthers.setCell _ _ _).trans (KeepsOthers.setCell _ _ _)).from _,V4 hi hx hc (by omega) (by omega) (by omega)⟩;have hc:(4000000000000000000-a)/(Q-P)<if v < -v then -v else v:=by assumption
  exact⟨((KeepsOthers.setCell _ _ _).trans (KeepsOthers.setCell _ _ _)).from _,V4 hi hx hc (by omega) (by omega) (by omega)⟩;have hc:(if v < -v then -v else v)<=(4000000000000000000-a)/(Q-P):=by assumption
  have hv:v < -v:=by assumption
  exact⟨((KeepsOthers.setCell _ _ _).trans (KeepsOthers.setCell _ _ _)).from _,Sl W _ _ (by omega) (by omega) (by omega) (by omega) (by omega) (by omega),_,_,
   V3 hi hx hc (by rw[ufv hv]) (by omega) (by omega) (by omega) (by omega) (by omega) (by omega) (by omega)⟩
  have hc:(if v < -v then -v else v)<=(4000000000000000000-a)/(Q-P):=by assumption
  have hv:¬ v < -v:=by omega
  exact⟨((KeepsOthers.setCell _ _ _).trans (KeepsOthers.setCell _ _ _)).from _,Sl W _ _ (by omega) (by omega) (by omega) (by omega) (by omega) (by omega),_,_,
   V3 hi hx hc (by rw[ufw hv]) (by omega) (by omega) (by omega) (by omega) (by omega) (by omega) (by omega)⟩
 case done=>
  rintro D zs W hD rfl ⟨q,hi⟩ R;have c6:=hi.x6.cell;have c4:=hi.x4.cell;have f4:=hi.x4.frozen;have c5:=hi.x5.cell;have f5:=hi.x5.frozen
  gi_wp2
  have H:=((KeepsOthers.setCell W ⟨w.heap.size+1+1,0,V⟩ (.int .i64 q.1)).trans (KeepsOthers.setCell _ ⟨w.heap.size+1+1+1,0,V⟩ (.int .i64 0))).same D _ R rfl;have x4':=(hi.x4.set (.int .i64 q.1)).other (B':=w.heap.size+1+1+1) (by omega) (.int .i64 0);have x5':=(hi.x5.other (B':=w.heap.size+1+1) (by omega) (.int .i64 q.1)).set (.int .i64 0);have d4:=cell_kept x4'.cell (grownBy_putObj' _ D (.deferred V)) (λr e=>by cases e;exact⟨_,H,rfl⟩);have d5:=cell_kept x5'.cell (grownBy_putObj' _ D (.deferred V)) (λr e=>by cases e;exact⟨_,H,rfl⟩);have hbb:=(hi.bel.setCell (p:=⟨w.heap.size+1+1,0,V⟩) (by show w.heap.size<=w.heap.size+1+1;omega) (.int .i64 q.1)).setCell (p:=⟨w.heap.size+1+1+1,0,V⟩) (by show w.heap.size<=w.heap.size+1+1+1;omega) (.int .i64 0);refine⟨by simp,.inl ⟨_,_,rfl,run_takeDeferred H,?_⟩⟩;refine⟨.tuple #[.int .i64 q.1,.int .i64 0],?_,?_,hbb.trans (belowK_b (w:=w) (ue9 _) _ D _ _ (by omega) H rfl rfl)⟩
  ·simp[results,results148,go_sem,d4,d5]
  rw[hi.sum];rfl
 case stop=>
  rintro D c j W hD ⟨r,rfl⟩ h R;obtain rfl:=h.ret;have c4:=h.x4.cell;have f4:=h.x4.frozen;have c5:=h.x5.cell;have f5:=h.x5.frozen
  gi_wp2
  have d4:=cell_kept h.x4.cell (grownBy_putObj' _ D (.deferred V)) (λr e=>by cases e;exact⟨_,R,rfl⟩);have d5:=cell_kept h.x5.cell (grownBy_putObj' _ D (.deferred V)) (λr e=>by cases e;exact⟨_,R,rfl⟩);refine⟨by simp,.inl ⟨_,_,rfl,run_takeDeferred R,?_⟩⟩;refine⟨.tuple #[.int .i64 0,.int .i64 5],?_,?_,h.bel.trans (belowK_b (w:=w) (ue9 _) _ D _ _ (by omega) R rfl rfl)⟩
  ·simp[results,results148,go_sem,d4,d5]
  rw[udw,V5,h.sum];rfl
end
def NH{a b:Value}(f:cs.size=2)(c:cs[0]?= U a)(d:cs[1]?= U b):cs = #[a,b]:=by
 apply ufn;simp[f];intro i hi g;have e:i<2:=by omega
 match i,e with
 |0,_=>
  have:=uaf.1 c;simpa using this.2
 |1,_=>
  have:=uaf.1 d;simpa using this.2
def zau{f:bm.den}(h:bu w F bm f v):∃ a b,v=.agg #[a,b]/\aA w F aK f.1 (λ_ u=>u=a)/\aA w F aK f.2.1 (λ_ u=>u=b):=by
 obtain⟨cs,rfl⟩:=h.2.1.1 rfl;have g:cs.size=2:=h.1;refine⟨cs[0]'(by omega),cs[1]'(by omega),?_,?_,?_⟩;congr 1;exact NH g (uam (by omega)) (uam (by omega));refine aA.mono (λ_ h=>h) (λ_ _=>rfl) ?_ h.2.2.1;intro j u d e;have:j=0:=by have:j<1:=d;omega
 subst this;have c:cs[0]?= U u:=e;rw[uam (by omega)]at c;simpa using c.symm;refine aA.mono (λ_ h=>h) (λ_ _=>rfl) ?_ h.2.2.2.1;intro j u d e;have:j=0:=by have:j<1:=d;omega
 subst this;have c:cs[1]?= U u:=e;rw[uam (by omega)]at c;simpa using c.symm
def zag{s:cn.den}(h:bu w F cn s v):v=.agg #[.int .i64 s.1,.int .i64 s.2.1]/\(-9223372036854775808<=s.1/\s.1<=9223372036854775807) /\ -9223372036854775808<=s.2.1/\s.2.1<=9223372036854775807:=by
 obtain⟨cs,rfl⟩:=h.2.1.1 rfl;have c:cs.size=2:=h.1;have a:cs[0]?= U (.int .i64 s.1):=h.2.2.1.1;have b:cs[1]?= U (.int .i64 s.2.1):=h.2.2.2.1.1;exact⟨by rw[NH c a b],h.2.2.1.2,h.2.2.2.1.2⟩
def Lk:{l:List (Int×Int×Int)}->(∀ x∈l,qm x) -> {q a:Int×Int}->wD q->em l q=U a->wD a
 |[],_,q,a,b,h=>by
  simp only[em,ucl]at h;subst h;exact b
 |x::l,d,q,a,b,h=>by
  simp only[em]at h;cases c:js q x with
  |none=>rw[c]at h;cases h
  |some f=>
   rw[c]at h;exact Lk (λy e=>d y (by simp[e])) (V7 (d x (by simp)) c b).1 h
def nc{b:Int}{u:Unit}:dN (a,b,u)=Z↔1<=a/\a<b/\b<=292195:=by
 simp[dN]
def Lv{b:Int}(c : -9223372036854775808<=a/\a<=9223372036854775807)(d : -9223372036854775808<=b/\b<=9223372036854775807):gT w F [i64,i64] (a,b,()) (.tuple #[.int .i64 a,.int .i64 b]):=
 ⟨_,rfl,_,_,rfl,⟨rfl,⟨λh=>(by cases h),λ⟨cs,h⟩=>(by cases h)⟩,rfl,c⟩,_,_,rfl,⟨rfl,⟨λh=>(by cases h),λ⟨cs,h⟩=>(by cases h)⟩,rfl,d⟩,rfl⟩
def NJ:{l:List (Int×Int×Int)}->(∀ x∈l,qm x)->∃ all:List jx,all.map Subtype.val=l
 |[],_=>⟨[],rfl⟩
 |x::l,h=>by
  obtain⟨all,a⟩:=NJ (l:=l) (λy b=>h y (by simp[b]));exact⟨⟨x,h x (by simp)⟩::all,by simp[a]⟩
def za6:af prog 148 AD:=by
 refine⟨enters (fn:=f148) (by kernel_rfl) rfl rfl,λw F xs vs l hr _=>?_⟩;obtain⟨f,⟨c,j,u⟩,_⟩:=xs;obtain⟨va,vs',rfl,hva,vb,vs'',rfl,hvb,hn⟩:=hr;cases hn;have v:bu w F bm f va:=hva;have L:bu w F cn (c,j,u) vb:=hvb;obtain⟨rfl,E,R⟩:=zag L;obtain⟨sa,sb,rfl,ha,k⟩:=zau v;obtain⟨A,N,rfl,T,hl2,s⟩:=KN ha;obtain⟨M,O,rfl,hl3,hl4,_⟩:=KN k;have m:∀ W,Below w.heap.size w W->bu W F bm f (.agg #[.slice A f.1.length N,.slice M f.2.1.length O]):=λW r=>v.mono (λ_ h=>h) (λb k=>r.block b (l b k));have B:∀ (W:World) (F:Nat->Prop),bu W F cn (c,j,u) (.agg #[.int .i64 c,.int .i64 j]):=λW F=>⟨rfl,⟨λ_=>⟨_,rfl⟩,λ_=>rfl⟩,⟨rfl,E⟩,⟨rfl,R⟩,uT⟩;have Q:∀ W,Below w.heap.size w W->Calls prog 196 #[.agg #[.slice A f.1.length N,.slice M f.2.1.length O]] W λe w'=>e=.returned (.bool (jU f))/\Below W.heap.size W w':=λW r=>
  FM (ps:=[.d bm]) (g:=λx=>jU x.1) qxt (F:=F) (xs:=(f,())) (vs:=[_]) (λb k=>ucb (l b k) r.size) ⟨_,[],rfl,m W r,rfl⟩ trivial
 have P:∀ W,Calls prog 197 #[.agg #[.int .i64 c,.int .i64 j]] W λe w'=>e=.returned (.bool (dN (c,j,())))/\Below W.heap.size W w':=λW=>
  FM (ps:=[.d cn]) (g:=λx=>dN x.1) ql7 (F:=λ_=>False) (xs:=((c,j,()),())) (vs:=[_]) (λb k=>k.elim) ⟨_,[],rfl,B W _,rfl⟩ trivial
 by_cases o:jU f=Z/\dN (c,j,())=Z;obtain⟨z,n⟩:=o;obtain⟨G,hup,_,K⟩:=Kz z;have H:=Da (f:=f) K (e:=j) (nc.1 n).2.2 f.1 c (nc.1 n).1 (nc.1 n).2.1;obtain⟨all,t⟩:=NJ H;rw[z]at Q;rw[n]at P;have S:f.1.length<=9223372036854775807:=by
  have:=ueo T hl2;unfold maxLen at this;omega
 have key:=za7 f A M N f.2.1.length O c j w Q P all t S E (λW r hp=>by
  obtain⟨b,off,h1,h2,h3⟩:=s hp;exact⟨b,off,h1,l b h2,λi x hx=>⟨(r.cell (p:=⟨b,off+i,V⟩) (l b h2)).trans (h3 i x hx).1,(h3 i x hx).2⟩⟩)
  (λW r=>zcy (λb k=>ucb (l b k) r.size) (m W r) hup G)
 refine(callsIn_wide.1 key).mono ?_;rintro e w' ⟨D,a⟩;rw[t]at D;have C:eo f (c,j,u)=match em (eL f j f.1 c) (0,0)with
   |some q=>(q.1,0)
   |none=>(0,5):=by
  unfold eo;rw[ufv ⟨z,n⟩]
  try rfl
 cases hq:em (eL f j f.1 c) (0,0)with
 |none=>
  rw[hq]at D C;have y:e=.returned (.tuple #[.int .i64 0,.int .i64 5]):=D;refine⟨_,F,y,a,λ_ h=>h,λb k=>⟨.inl k,ucb (l b k) a.size⟩,?_⟩;show gT w' F [i64,i64] ((eo f (c,j,u)).1,(eo f (c,j,u)).2,()) _;rw[C];exact Lv (by decide) (by decide)
 |some q=>
  rw[hq]at D C;have y:e=.returned (.tuple #[.int .i64 q.1,.int .i64 0]):=D;refine⟨_,F,y,a,λ_ h=>h,λb k=>⟨.inl k,ucb (l b k) a.size⟩,?_⟩;show gT w' F [i64,i64] ((eo f (c,j,u)).1,(eo f (c,j,u)).2,()) _;rw[C];obtain⟨j1,j2,j3,j4⟩:=Lk H (q:=(0,0)) ⟨by decide,by decide,by decide,by decide⟩ hq;exact Lv ⟨by show _<=q.1;omega,by show q.1<=_;omega⟩ (b:=0) (by decide)
 have key:=za5 f A M f.1.length N f.2.1.length O c j w Q P o;refine(callsIn_wide.1 key).mono ?_;rintro e w' ⟨rfl,a⟩;refine⟨_,F,rfl,a,λ_ h=>h,λb k=>⟨.inl k,ucb (l b k) a.size⟩,?_⟩;show gT w' F [i64,i64] ((eo f (c,j,u)).1,(eo f (c,j,u)).2,()) _;have C:eo f (c,j,u)=(0,1):=ufw o;rw[C];exact Lv (by decide) (by decide)
def fK(p:List Int×List Int)(day v:Int):List Int×List Int:=
 let q:=if p.1.getLast?= U day then (p.1.dropLast,p.2.dropLast)else p
 if v≠q.2.getLast?.getD 0/\day<=292194 then (q.1++[day],q.2++[v])else q
section
variable {α:Type}
def Ai(at_ val:List Int)(day v:Int)(K:List Int->List Int->Fr α):Fr α:=
 Jb (J ((val.length:Int)>0))
  (Jd (0<=I6.wrap (val.length-1)/\I6.wrap (val.length-1)<val.length)
   (Jd ((I6.wrap (val.length-1)).toNat<val.length)
    (Jb (bif v != val.getD (I6.wrap (val.length-1)).toNat i64.dflt then J (day<=292194)else Y)
     (Jd (at_.length + [day].length<=maxLen/\(at_.length + [day].length)*8<=140737488355328)
      (Jd (val.length + [v].length<=maxLen/\(val.length + [v].length)*8<=140737488355328)
       (K (at_++[day]) (val++[v]))))
     (K at_ val))))
  (Jb (bif v != 0 then J (day<=292194)else Y)
   (Jd (at_.length + [day].length<=maxLen/\(at_.length + [day].length)*8<=140737488355328)
    (Jd (val.length + [v].length<=maxLen/\(val.length + [v].length)*8<=140737488355328)
     (K (at_++[day]) (val++[v]))))
   (K at_ val))
def NC(at_ val:List Int)(day v:Int)(K:List Int->List Int->Fr α):Fr α:=
 Jd (J ((at_.length:Int)>0)=Z->0<=I6.wrap (at_.length-1)/\I6.wrap (at_.length-1)<at_.length)
  (Jd (J ((at_.length:Int)>0)=Z->(I6.wrap (at_.length-1)).toNat<at_.length)
   (Jb (bif J ((at_.length:Int)>0)then at_.getD (I6.wrap (at_.length-1)).toNat i64.dflt==day else Y)
    (Jd (0<=I6.wrap (at_.length-1)/\I6.wrap (at_.length-1)<=at_.length)
     (Jd (0<=I6.wrap (at_.length-1)/\I6.wrap (at_.length-1)<=val.length)
      (Ai (at_.take (I6.wrap (at_.length-1)).toNat) (val.take (I6.wrap (at_.length-1)).toNat) day v K)))
    (Ai at_ val day v K)))
def C9(h:0<l.length)(a:l.length<1000000):l.getD (I6.wrap ((l.length:Int)-1)).toNat i64.dflt=l.getLast?.getD 0:=by
 rw[cz (by omega),uao,uah];have:((l.length:Int)-1).toNat=l.length-1:=by omega
 rw[this];rfl
def qad{at_ val:List Int}{v:Int}{K:List Int->List Int->Fr α}{Q:α->Prop}(j:at_.length<1000000)(f:val.length<1000000)(h:(if v≠val.getLast?.getD 0/\day<=292194 then K (at_++[day]) (val++[v])else K at_ val).satP Q):(Ai at_ val day v K).satP Q:=by
 have a:∀ (l:List Int) (x:Int),l.length<1000000->l.length + [x].length<=maxLen/\(l.length + [x].length)*8<=140737488355328:=λl x m=>by
  simp only[maxLen,ua7];omega
 by_cases i:0<val.length;refine⟨λ_=>⟨?_,?_,?_,?_⟩,λg=>?_⟩;rw[cz (by omega)];omega;rw[cz (by omega)];omega;intro c;rw[C9 i f,oc]at c;have b:v≠val.getLast?.getD 0/\day<=292194:=by simpa using c
 rw[ufv b]at h;exact⟨a _ _ j,a _ _ f,h⟩;intro c;rw[C9 i f,oc]at c;have b:¬ (v≠val.getLast?.getD 0/\day<=292194):=by
  intro d;simp[d.1,d.2]at c
 rw[ufw b]at h;exact h;exact absurd (uch g) (by omega);have e:val=[]:=by
  cases val with
  |nil=>rfl
  |cons _ _=>simp at i
 subst e;refine⟨λg=>by simp at g,λ_=>⟨λc=>?_,λc=>?_⟩⟩;rw[oc]at c;have b:v≠([]:List Int).getLast?.getD 0/\day<=292194:=by simpa using c
 rw[ufv b]at h;exact⟨a _ _ j,a _ _ f,h⟩;rw[oc]at c;have b:¬ (v≠([]:List Int).getLast?.getD 0/\day<=292194):=by
  intro d;have k:v≠0:=d.1;simp[k,d.2]at c
 rw[ufw b]at h;exact h
def qae{at_ val:List Int}{v:Int}{K:List Int->List Int->Fr α}{Q:α->Prop}(g:at_.length<1000000)(k:at_.length=val.length)(h:(K (fK (at_,val) day v).1 (fK (at_,val) day v).2).satP Q):(NC at_ val day v K).satP Q:=by
 have key:∀ a b:List Int,a.length<1000000->b.length<1000000->fK (at_,val) day v=(if v≠b.getLast?.getD 0/\day<=292194 then (a++[day],b++[v])else (a,b))->(Ai a b day v K).satP Q:=λa b l c m=>by
  refine qad l c ?_;rw[m]at h;by_cases i:v≠b.getLast?.getD 0/\day<=292194;rw[ufv i]at h |-;exact h;rw[ufw i]at h |-;exact h
 refine⟨λe=>?_,λe=>?_,λc=>⟨?_,?_,?_⟩,λc=>?_⟩;have:(at_.length:Int)>0:=by simpa using e
 rw[cz (by omega)];omega;have:(at_.length:Int)>0:=by simpa using e
 rw[cz (by omega)];omega;have:(at_.length:Int)>0:=by
  simp at c;simpa using c.1
 rw[cz (by omega)];omega;have:(at_.length:Int)>0:=by
  simp at c;simpa using c.1
 rw[cz (by omega)];omega;rw[oc]at c;obtain⟨e,c⟩:=Bool.and_eq_true_iff.1 c;have d:0<at_.length:=by simpa using e
 rw[C9 d g]at c;have f:at_.getLast?= U day:=by
  have:at_.getLast?.getD 0=day:=by simpa using c
  rw[uao]at this |-;rw[uaq (by omega)]at this |-;simpa using this
 have j:(I6.wrap ((at_.length:Int)-1)).toNat=at_.length-1:=by
  rw[cz (by omega)];omega
 rw[j];refine key _ _ (by simp;omega) (by simp;omega) ?_;unfold fK;simp only[f,if_true,List.dropLast_eq_take,<- k];rw[oc]at c;refine key _ _ g (by omega) ?_;have f:at_.getLast? ≠ U day:=by
  intro f;have d:0<at_.length:=by
   cases at_ with
   |nil=>simp at f
   |cons _ _=>simp
  have e:J ((at_.length:Int)>0)=true:=by simpa using d
  rw[e,C9 d g,f]at c;simp at c
 unfold fK;simp only[f,ufs]
end
def NB{p:List Int×List Int}(day v:Int)(h:p.1.length=p.2.length):(fK p day v).1.length=(fK p day v).2.length/\(fK p day v).1.length<=p.1.length+1:=by
 unfold fK;by_cases a:p.1.getLast?= U day;simp only[a,if_true];split<;>simp<;>omega
 simp only[a,ufs];split<;>simp<;>omega
abbrev Sf:List (Tmp×PT):=[(10015,.d i64),(10014,.d i64),(10013,.d zel),(10005,.d i64)]
abbrev Se:List MI:=[.y 3 219 [(U 3,i64),(U 3,i64)],.r 10003 3 0,.g 10004 151 [3],.x 7 213 aB,.r 10007 7 0,.x 2 219 bm,.r 10002 2 0]
abbrev yC:Pt:=⟨65,0,⟨Sf,Se⟩,⟨[],[]⟩,⟨[],[]⟩⟩
abbrev LA:LS:=⟨(0,.d i64)::(1,.d i64)::Sf,.r 2 3 0::Se⟩
noncomputable def FJ:Code:=f151.body.getD .skip
def frA(x:LA.X):Fr yC.Out:=
 NC x.2.1.1 x.2.1.2.1 x.1.1 x.1.2.1 λa b=>Jv (Rd.next (x.1.2.2,(a,b,()),x.2.2))
def Pg:CxOK prog (cx [] []):=aP aG trivial trivial
def qyn:ae prog FJ LA yC frA:=
 ae.of_run Pg (bs:=80000) (Λ:=bw) rfl rfl rfl (λE=>aY _ 0) (λx=>by kernel_rfl)
def FA(x:LA.X):Fr yC.Out:=
 Jd (x.2.1.1.length<1000000/\x.2.1.1.length=x.2.1.2.1.length)
  (Jv (Rd.next (x.1.2.2,((fK (x.2.1.1,x.2.1.2.1) x.1.1 x.1.2.1).1,(fK (x.2.1.1,x.2.1.2.1) x.1.1 x.1.2.1).2,()),x.2.2)))
def qf1:ae prog FJ LA yC FA:=
 qyn.conv λx Q h=>qae h.1.1 h.1.2 h.2
noncomputable def kA:Nat->FuncId->List AV->St->Option Tr:=IK prog (cx [] []).Γ 151 f151 LA yC FA
def qom:gQ prog kA:=qnb Pg (c:=FJ) (by kernel_rfl) (by kernel_rfl) rfl rfl qf1
noncomputable def CC:Cx:=cW [(152,qw)] [(149,eF)] kA
def EA:CxOK prog CC:=cZ aG ⟨ql8,uT⟩ ⟨JE,uT⟩ qom
abbrev iV:Pt:=⟨41,0,⟨[(15,.d i64),(14,.d i64),(13,.d zel),(5,.d i64)],[.y 3 219 [(U 3,i64),(U 3,i64)],.r 3 3 0,.g 4 151 [3],.x 2 219 bm,.r 2 2 0]⟩,⟨[],[.y 3 219 [(U 3,i64),(U 3,i64)],.r 3 3 0,.x 2 219 bm,.r 2 2 0]⟩,⟨[],[]⟩⟩
def addS(p:List Int×List Int)(s:aB.den):List Int×List Int:=fK (fK p s.1.1 s.2.2.2.2.1) s.1.2.1 0
def qk3(x:iV.M.X)(s:aB.den):Fr iV.Out:=
 let b:=addS (x.2.1.1,x.2.1.2.1) s;let a:=fK (x.2.1.1,x.2.1.2.1) s.1.1 s.2.2.2.2.1;Jd (x.2.1.1.length<1000000/\x.2.1.1.length=x.2.1.2.1.length)
  (Jd (a.1.length<1000000/\a.1.length=a.2.length)
   (Jv (Rd.next ((I6.wrap (x.1.1+1),x.1.2.1,x.1.2.2.1,s.1.2.1,()),(b.1,b.2,()),x.2.2.1,()))))
def Q3(x:iV.M.X):Fr iV.Out:=
 let a:=qk3 x (x.1.2.2.1.getD x.1.1.toNat aB.dflt);Jb (J (x.1.1<x.1.2.1))
  (Jd (0<=x.1.1/\x.1.1<x.1.2.2.1.length)
   (Jb (!(qw.f (x.1.2.2.1.getD x.1.1.toNat aB.dflt,x.1.2.2.2.1,())).1)
    (Jb (eF.bad (1,())) (Jv (Rd.pan (eF.pv (1,()))))
     a)
    a))
  (Jv (Rd.out ((),(x.2.1.1,x.2.1.2.1,()),x.2.2.1,())))
def qyr:ae prog (au f91 0) iV.M iV Q3:=
 dn EA
def gX:List aB.den->Int->List Int×List Int->Option (List Int×List Int)
 |[],_,p=>U p
 |s::l,e,p=>if ne s e=Z then gX l s.1.2.1 (addS p s)else V
def TC(r:bm.den)(o:Option (List Int×List Int)):Fr iV.Out:=
 Jb o.isSome (Jv (Rd.out ((),((o.getD ([],[])).1,(o.getD ([],[])).2,()),r,()))) (Jv (Rd.pan ⟨47,.i64,1⟩))
structure InvC (i n:Int) (l:List aB.den) (p:List Int×List Int):Prop where
 len:n=l.length
 lo:0<=i
 hi:i<=n
 most:l.length<=2000
 both:p.1.length=p.2.length
 few:p.1.length<=2*i
def FC(x:iV.M.X):Fr iV.Out:=
 Jd (InvC x.1.1 x.1.2.1 x.1.2.2.1 (x.2.1.1,x.2.1.2.1)) (TC x.2.2.1 (gX (x.1.2.2.1.drop x.1.1.toNat) x.1.2.2.2.1 (x.2.1.1,x.2.1.2.1)))
def qpm(i n:Int)(l:List aB.den)(e:Int)(at_ val:List Int)(r:bm.den)(g:InvC i n l (at_,val))(Q:iV.Out->Prop)(a:(TC r (gX (l.drop i.toNat) e (at_,val))).satP Q):
  (Q3 ((i,n,l,e,()),(at_,val,()),r,())).satP λ
   |.next b=>InvC b.1.1 b.1.2.1 b.1.2.2.1 (b.2.1.1,b.2.1.2.1)/\(b.1.2.1-b.1.1).toNat<(n-i).toNat/\(FC b).satP Q
   |.out y=>Q (.out y)
   |.back z=>Q (.back z)
   |.pan p=>Q (.pan p):=by
 obtain⟨rfl,w,F,x,t,A⟩:=g;refine⟨λhi=>?_,λhi=>?_⟩;have d:i<l.length:=by simpa using hi
 have h:i.toNat<l.length:=by omega
 have v:=ual h;have j:l.getD i.toNat aB.dflt=l[i.toNat]:=by rw[uah,uaq h];rfl
 rw[v]at a;generalize G:l[i.toNat]=s at *;refine⟨⟨w,d⟩,λk=>?_,λk=>?_⟩;have c:ne s e=false:=by
  have:(!(qw.f (l.getD i.toNat aB.dflt,e,())).1)=true:=k;rw[j]at this;simpa[qw]using this
 have m:Q (Rd.pan ⟨47,.i64,1⟩):=by
  unfold gX at a;rw[c]at a;exact a.2 rfl
 exact⟨λ_=>m,λC=>by cases C⟩;have c:ne s e=true:=by
  have:(!(qw.f (l.getD i.toNat aB.dflt,e,())).1)=false:=k;rw[j]at this;simpa[qw]using this
 unfold gX at a;rw[c,ufv rfl]at a;have o:=NB s.1.1 s.2.2.2.2.1 t;have q:=NB s.1.2.1 0 o.1;rw[j];have E:I6.wrap (i+1)=i+1:=cz (by omega);have D:(i+1).toNat=i.toNat+1:=by omega
 have B:(at_.length:Int)<=2*i:=A;have u:InvC (i+1) l.length l (addS (at_,val) s):=⟨rfl,by omega,by omega,x,q.1,by
  have:(addS (at_,val) s).1.length<=(fK (at_,val) s.1.1 s.2.2.2.2.1).1.length+1:=q.2;omega⟩
 refine⟨⟨by show at_.length<1000000;omega,t⟩,⟨by show(fK (at_,val) s.1.1 s.2.2.2.2.1).1.length<1000000;omega,o.1⟩,?_⟩;show InvC (I6.wrap (i+1)) l.length l (addS (at_,val) s)/\((l.length:Int)-I6.wrap (i+1)).toNat<((l.length:Int)-i).toNat/\(FC ((I6.wrap (i+1),(l.length:Int),l,s.1.2.1,()),((addS (at_,val) s).1,(addS (at_,val) s).2,()),r,())).satP Q;rw[E];refine⟨u,by omega,u,?_⟩;rw[D];exact a;have d:¬ i<l.length:=by simpa using hi
 have h:l.drop i.toNat=[]:=ua2 (by omega);rw[h]at a;exact a.1 rfl
def qqt:ae prog (.loop (au f91 0)) iV.M iV FC:=by
 refine ae.loop qyr (μ:=λx=>(x.1.2.1-x.1.1).toNat) ?_ (λx Q h=>h.1);rintro⟨⟨i,n,l,e,_⟩,⟨at_,val,_⟩,r,_⟩ a Q b;exact qpm i n l e at_ val r a Q b.2
noncomputable def ΛC:Nat->St->Option Tr:=λ_=>iV.han CC.Γ iV.M FC
def iG(l:List aB.den):Option (List Int×List Int):=if l.length<=2000 then gX l 1 ([],[])else V
def Q5(x:ag [.d zel]):Fr (Oc (aa [bm])):=
 let a:=gX (x.1.drop (Int.toNat 0)) 1 ([],[]);let b:=a.getD ([],[]);Jd (InvC 0 x.1.length x.1 ([],[]))
  (Jb a.isSome (Jv (Oc.ok ((b.1,b.2,()),())))
   (Jv (Oc.pan ⟨47,.i64,1⟩)))
def kH(x:ag [.d zel]):Fr (Oc (aa [bm])):=
 Jb (J ((x.1.length:Int)>2000))
  (Jb (eF.bad (1,())) (Jv (Oc.pan (eF.pv (1,())))) (Q5 x))
  (Q5 x)
def qew:jz prog 91 ⟨[.d zel],[bm],λxs=>(kH xs).get.val,λxs=>(kH xs).get.bad,λxs=>(kH xs).get.pv,λxs=>[(kH xs).ok]⟩:=
 Q0 EA (Λ:=ΛC) (fn:=f91) ([],()) (by kernel_rfl) (λc E a=>zlp a (by kernel_rfl) (b:=au f91 0) (by kernel_rfl) (ae.han EA rfl qqt)) (λxs=>by kernel_rfl)
def cy(l:List aB.den):bm.den:=(((iG l).getD ([],[])).1,((iG l).getD ([],[])).2,())
def dW:Pc:=⟨[.d zel],[bm],λx=>(cy x.1,()),λx=>(iG x.1).isNone,λ_=>⟨47,.i64,1⟩,λ_=>[]⟩
def Pf:jz prog 91 dW:=
 OP qew _ _ _ _ λw F xs vs j _=>by
  obtain⟨l,_⟩:=xs;by_cases f:l.length<=2000;have e:J ((l.length:Int)>2000)=false:=by simp;omega
  have g:InvC 0 l.length l ([],[]):=⟨rfl,ufa _,by omega,f,rfl,by simp⟩;have d:iG l=gX l 1 ([],[]):=ufv f;have b:(kH (l,())).get=if (gX l 1 ([],[])).isSome=Z then Oc.ok (cy l,())else Oc.pan ⟨47,.i64,1⟩:=by
   show(if J ((l.length:Int)>2000)=Z then _ else (if (gX l 1 ([],[])).isSome=Z then Oc.ok _ else Oc.pan _))=_;rw[e];unfold cy;rw[d];rfl
  refine⟨⟨λc=>?_,λ_=>⟨g,λ_=>uT,λ_=>uT⟩⟩,?_,?_,?_⟩;have a:=c;rw[e]at a;cases a;show(kH (l,())).get.bad=(iG l).isNone;rw[b,d];cases gX l 1 ([],[])<;>rfl
  intro c;have a:=c;show(kH (l,())).get.val=(cy l,());rw[b];rw[d]at a;cases h:gX l 1 ([],[])with
  |none=>rw[h]at a;cases a
  |some p=>rfl
  intro c;have a:=c;show(kH (l,())).get.pv=_;rw[b];rw[d]at a;cases h:gX l 1 ([],[])with
  |none=>rfl
  |some p=>rw[h]at a;cases a
  have e:J ((l.length:Int)>2000)=true:=by simp;omega
  have d:iG l=none:=ufw f;have b:(kH (l,())).get=Oc.pan ⟨47,.i64,1⟩:=by
   show(if J ((l.length:Int)>2000)=Z then _ else _)=_;rw[e];rfl
  refine⟨⟨λ_=>⟨λ_=>uT,λi=>by cases i⟩,λc=>?_⟩,?_,?_,?_⟩;have a:=c;rw[e]at a;cases a;show(kH (l,())).get.bad=(iG l).isNone;rw[b,d];rfl;intro c;have a:=c;rw[d]at a;cases a;intro _;show(kH (l,())).get.pv=_;rw[b];rfl
def dX(d:Int):Int:=if 292195<(if d<1 then 1 else d)then 292195 else (if d<1 then 1 else d)
def qdm(d:Int):1<=dX d/\dX d<=292195:=by
 unfold dX;split<;>split<;>omega
noncomputable def CU:Cx:=cx [(148,AD),(150,qv)] [(149,eF)]
def Y3:CxOK prog CU:=aP aG ⟨za6,qg4,uT⟩ ⟨JE,uT⟩
def BX(s e:Int):Fr (Oc (aa [i64])):=
 let a:=qv.f (s,1,365,());Jb (eF.bad (e,())) (Jv (Oc.pan (eF.pv (e,()))))
  (Jd (0<=s->(0:Int)<=1->s*1<18446744073709551616)
   (Jb (eF.bad (a.2.1,())) (Jv (Oc.pan (eF.pv (a.2.1,())))) (Jv (Oc.ok (a.1,())))))
def mZ(x:ag [.d bm,.d i64]):Fr (Oc (aa [i64])):=
 Jb (dX x.2.1==1) (Jv (Oc.ok (0,()))) (BX (AD.f (x.1,(1,dX x.2.1,()),())).1 (AD.f (x.1,(1,dX x.2.1,()),())).2.1)
def zcw:jz prog 90 ⟨[.d bm,.d i64],[i64],λxs=>(mZ xs).get.val,λxs=>(mZ xs).get.bad,λxs=>(mZ xs).get.pv,λxs=>[(mZ xs).ok]⟩:=
 Q0 Y3 (Λ:=bw) (fn:=f90) (([],[],()),0,()) (by kernel_rfl) (λc E a=>aY c 0) (λxs=>by kernel_rfl)
def gN(s e:Int):Int×Int:=if e≠0 then (0,e)else if (cP s 1 365).2≠0 then (0,(cP s 1 365).2)else ((cP s 1 365).1,0)
def bT(f:bm.den)(d:Int):Int×Int:=if dX d=1 then (0,0)else gN (eo f (1,dX d,())).1 (eo f (1,dX d,())).2
def fP:Pc:=⟨[.d bm,.d i64],[i64],λx=>((bT x.1 x.2.1).1,()),λx=>!((bT x.1 x.2.1).2==0),λx=>⟨47,.i64,(bT x.1 x.2.1).2⟩,λ_=>[]⟩
def za3(f:bm.den)(s:cn.den):(eo f s).1<=4000000000000000000:=by
 unfold eo;split;rename_i h;obtain⟨_,_,_,a⟩:=Kz h.1;have c:=nc.1 h.2;have b:=Da a c.2.2 f.1 s.1 c.1 c.2.1;cases d:em (eL f s.2.1 f.1 s.1) (0,0)with
 |none=>show(0:Int)<=_;decide
 |some q=>
  obtain⟨e,g,i,j⟩:=Lk b ⟨by decide,by decide,by decide,by decide⟩ d;show q.1<=_;omega
 show(0:Int)<=_;decide
def qlg{s e:Int}(j:s<=4000000000000000000):(BX s e).ok/\(BX s e).get=if (gN s e).2=0 then Oc.ok ((gN s e).1,())else Oc.pan ⟨47,.i64,(gN s e).2⟩:=by
 by_cases i:e=0;subst i;have a:0<=s->(0:Int)<=1->s*1<18446744073709551616:=λ_ _=>by omega
 by_cases d:(cP s 1 365).2=0;have g:gN s 0=((cP s 1 365).1,0):=by
  unfold gN;rw[ufw (λh=>h rfl),ufw (λh=>h d)]
 have b:eF.bad ((qv.f (s,1,365,())).2.1,())=false:=by
  show(!((cP s 1 365).2==0))=Y;rw[d];rfl
 rw[g];refine⟨⟨λc=>(by cases c),λ_=>⟨a,λ_=>uT,λ_=>uT⟩⟩,?_⟩;show(if eF.bad ((qv.f (s,1,365,())).2.1,())=Z then _ else Oc.ok ((cP s 1 365).1,()))=_;rw[b];rfl;have g:gN s 0=(0,(cP s 1 365).2):=by
  unfold gN;rw[ufw (λh=>h rfl),ufv d]
 have b:eF.bad ((qv.f (s,1,365,())).2.1,())=true:=by
  show(!((cP s 1 365).2==0))=Z;simp[d]
 rw[g];refine⟨⟨λc=>(by cases c),λ_=>⟨a,λ_=>uT,λ_=>uT⟩⟩,?_⟩;show(if eF.bad ((qv.f (s,1,365,())).2.1,())=Z then Oc.pan ⟨47,.i64,(cP s 1 365).2⟩else _)=_;rw[b,ufv rfl];exact(ufw d).symm;have g:gN s e=(0,e):=by
  unfold gN;rw[ufv i]
 have b:eF.bad (e,())=true:=by
  show(!(e==0))=Z;simp[i]
 rw[g];refine⟨⟨λ_=>uT,λc=>(by rw[b]at c;cases c)⟩,?_⟩;show(if eF.bad (e,())=Z then Oc.pan ⟨47,.i64,e⟩else _)=_;rw[b,ufv rfl];exact(ufw i).symm
def Wu:jz prog 90 fP:=
 OP zcw _ _ _ _ λw F xs vs j _=>by
  obtain⟨f,d,_⟩:=xs;have key:(mZ (f,d,())).ok/\(mZ (f,d,())).get=if (bT f d).2=0 then Oc.ok ((bT f d).1,())else Oc.pan ⟨47,.i64,(bT f d).2⟩:=by
   unfold bT;by_cases g:dX d=1;rw[ufv g];have a:(dX d==1)=true:=by simpa using g
   refine⟨⟨λ_=>uT,λc=>(by rw[a]at c;cases c)⟩,?_⟩;show(if (dX d==1)=Z then Oc.ok (0,())else _)=_;rw[a];rfl;rw[ufw g];have a:(dX d==1)=false:=by simpa using g
   have i:=qlg (e:=(eo f (1,dX d,())).2) (za3 f (1,dX d,()));refine⟨⟨λc=>(by rw[a]at c;cases c),λ_=>i.1⟩,?_⟩;show(if (dX d==1)=Z then _ else (BX (eo f (1,dX d,())).1 (eo f (1,dX d,())).2).get)=_;rw[a,ufw (by decide),i.2]
  refine⟨key.1,?_,?_,?_⟩;show(mZ (f,d,())).get.bad=!((bT f d).2==0);rw[key.2];by_cases h:(bT f d).2=0;rw[ufv h,h];rfl;rw[ufw h];have:((bT f d).2==0)=false:=by simpa using h
  rw[this];rfl;intro a;have b:=a;have h:(bT f d).2=0:=by simpa using b
  show(mZ (f,d,())).get.val=((bT f d).1,());rw[key.2,ufv h];rfl;intro a;have b:=a;have h:¬ (bT f d).2=0:=by simpa using b
  show(mZ (f,d,())).get.pv=_;rw[key.2,ufw h];rfl
def qz1{a:Value}(h:w.heap[b]?= U (.cells #[a] ty (0,0))):w.setCell ⟨b,0,V⟩ v=w.setRow b #[v]:=by
 unfold World.setCell World.setRow;congr 1;apply uci;intro i;simp only[Array.getElem?_modify];by_cases hi:b=i;subst hi;rw[h];simp;simp[hi]
def VZ:TolOK prog 89 47 .i64:=by
 refine⟨enters (fn:=f89) (by kernel_rfl) rfl rfl,λp w=>?_,λb ty e n w c=>?_⟩
 ·refine callsD_of_wpS func89 rfl λa cs d=>?_;simp only[ntmps89,ucq,uc9,udl,Nat.reduceAdd,Nat.reduceSub,ubn,ubo,ucy,ubx,udm,uc4];apply wpS_seq;apply wpS_region;simp[wpOpsS,go_sem,recoverD,d,Exit.thenS];refine wpS_of_wp ?_
  go_wp2
  cases a
  simp_all[bodyPostS,results,results89]
 ·have g:w.cell? ⟨b,0,V⟩=U e:=aO c 0;have h:w.frozen? ⟨b,0,V⟩=false:=by simp[World.frozen?,c]
  have f:∀ w,(Instr.typeAssert (.iface 47 (.int .i64 n)) 20 47 Z).run prog w=.ok (.tuple #[.int .i64 n,.bool Z]) w:=λ_=>by kernel_rfl
  refine callsD_of_wpS func89 rfl λa cs d=>?_;simp only[ntmps89,ucq,uc9,udl,Nat.reduceAdd,Nat.reduceSub,ubn,ubo,ucy,ubx,udm,uc4];apply wpS_seq;apply wpS_region;simp[wpOpsS,go_sem,recoverD,d,Exit.thenS];refine wpS_of_wp ?_
  go_wp2
  simp[bodyPostS,results,results89,qz1 c]
def H8:(0:Int)<=0/\(0:Int)<=6:=by decide
def H9:(0:Int)<=1/\(1:Int)<=6:=by decide
def Ey:(0:Int)<=0/\(0:Int)<=4000000000000000000:=by decide
def PD:(0:Int)<=5/\(5:Int)<=6:=by decide
def qg0(a b c:Int):0<=(cP a b c).2/\(cP a b c).2<=6:=by
 unfold cP;split;exact⟨by decide,by decide⟩;split;exact⟨by decide,by decide⟩;split;exact PD;exact H8
def PL(a b c:Int)(e:0<c):0<=(cP a b c).1/\(cP a b c).1<=4000000000000000000:=by
 unfold cP;split;exact⟨by decide,by decide⟩;rename_i h;split;exact⟨by decide,by decide⟩;split;exact⟨by decide,by decide⟩;have d:0<=a*b:=ueb (by omega) (by omega);have f:0<=a*b/c:=udk d (by omega);have:0<=jF (a*b) c:=by
  unfold jF;split<;>omega
 exact⟨this,by show jF (a*b) c<=_;omega⟩
def za2(f:bm.den)(s:cn.den):0<=(eo f s).2/\(eo f s).2<=6:=by
 unfold eo;split;cases em (eL f s.2.1 f.1 s.1) (0,0);exact PD;exact H8;exact⟨by decide,by decide⟩
def L8(f:bm.den)(d:Int):0<=(bT f d).2/\(bT f d).2<=6:=by
 unfold bT;split;exact⟨by decide,by decide⟩;unfold gN;split;exact za2 _ _;split;exact qg0 _ _ _;exact H8
def L9(f:bm.den)(d:Int):0<=(bT f d).1/\(bT f d).1<=4000000000000000000:=by
 unfold bT;split;exact Ey;unfold gN;split;exact Ey;split;exact Ey;exact PL _ _ _ (by decide)
def zcu(f:bm.den)(d:Int)(h:(bT f d).2≠0):(bT f d).1=0:=by
 unfold bT at *;split at h;exact absurd rfl h;rename_i c;rw[ufw c];unfold gN at *;split at h;rename_i a;rw[ufv a];rename_i a;rw[ufw a];split at h;rename_i b;rw[ufv b];exact absurd rfl h
def tS{n:Int}(h:0<=n/\n<=6):inR .i64 n:=by
 constructor;show(-9223372036854775808:Int)<=n;omega;show n<=(9223372036854775807:Int);omega
noncomputable def CP:Cx:=cx [] [(91,dW),(90,fP)]
def XK:CxOK prog CP:=aP aG trivial ⟨Pf,Wu,uT⟩
def dS(l:List aB.den)(d:Int):Int×Int:=if (iG l).isNone=Z then (0,1)else bT (cy l) d
def mE:Ct:=⟨[.d zel,.d i64],[i64,i64],λx=>((dS x.1 x.2.1).1,(dS x.1 x.2.1).2,()),λ_=>[]⟩
def qlh(x:ag [.d zel,.d i64]):Fr (aa [i64,i64]):=
 let b:=dW.pv (x.1,());let a:=((dW.f (x.1,())).1,x.2.1,());Jb (dW.bad (x.1,())) (Jd (inR .i64 b.n) (Jv (0,b.n,())))
  (Jb (fP.bad a)
   (Jd (inR .i64 (fP.pv a).n) (Jv (0,(fP.pv a).n,())))
   (Jv ((fP.f a).1,0,())))
def N4:af prog 61 mE:=
 conv (qfa XK (Λ:=bw) (fn:=f61) (fr:=qlh) (ps:=[.d zel,.d i64]) (rs:=[i64,i64]) ([],0,()) (by kernel_rfl) VZ (λc E _=>aY c 0) (λx=>by kernel_rfl)) _ _ λw F xs vs i _=>by
  obtain⟨l,d,_⟩:=xs;by_cases f:(iG l).isNone=Z;have b:dW.bad (l,())=true:=f;refine⟨⟨λ_=>⟨tS H9,uT⟩,λh=>(by have a:dW.bad (l,())=false:=h;rw[b]at a;cases a)⟩,?_⟩;show(if dW.bad (l,())=Z then ((0:Int),(1:Int),())else _)=((dS l d).1,(dS l d).2,());unfold dS;rw[b,ufv rfl,ufv f];have b:dW.bad (l,())=false:=(by show(iG l).isNone=Y;exact ucz.2 f);have g:dS l d=bT (cy l) d:=ufw f;refine⟨⟨λh=>(by have a:dW.bad (l,())=true:=h;rw[b]at a;cases a),λ_=>⟨λ_=>⟨tS (L8 _ _),uT⟩,λ_=>uT⟩⟩,?_⟩;show(if dW.bad (l,())=Z then _ else if (!((bT (cy l) d).2==0))=Z then ((0:Int),(bT (cy l) d).2,())else ((bT (cy l) d).1,0,()))=((dS l d).1,(dS l d).2,());rw[b,ufw (by decide),g];by_cases e:(bT (cy l) d).2=0;rw[ufw (by simp[e]),e];rw[ufv (by simp[e]),zcu _ _ e]
def AH:Ct:=⟨[.d zel],[i64,i64],λx=>((dS x.1 292195).1,(dS x.1 292195).2,()),λ_=>[]⟩
def ZP:af prog 72 AH:=
 flat (ps:=[.d zel]) (rs:=[i64,i64]) (aP (cs:=[(61,mE)]) (ps:=[]) aG ⟨N4,uT⟩ trivial) (fn:=f72) (fr:=λx=>Jv ((mE.f (x.1,292195,())).1,(mE.f (x.1,292195,())).2.1,())) ([],()) (by kernel_rfl) (λx=>by kernel_rfl) _ _
  (λ_ _ x _ _ _=>⟨uT,rfl⟩)
def dg(f:bm.den):Int->Nat->Int
 |_,0=>0
 |a,n+1=>dz f a+dg f (a+1) n
def Px(f:bm.den):(m n:Nat)->(a:Int)->dg f a (m+n)=dg f a m+dg f (a+m) n
 |0,n,a=>by simp[dg]
 |m+1,n,a=>by
  have h:=Px f m n (a+1);rw[show m+1+n=(m+n)+1 by omega];simp only[dg];rw[h];have:a+1+(m:Int)=a+((m+1:Nat):Int):=by omega
  rw[this];omega
def H2{f:bm.den}(h:∀ d,0<=dz f d):(n:Nat)->(a:Int)->0<=dg f a n
 |0,a=>ufa _
 |n+1,a=>by
  have:=H2 h n (a+1);have:=h a;simp only[dg];omega
def H1{f:bm.den}{v:Int}:(n:Nat)->(a:Int)->(∀ d,a<=d->d<a+n->dz f d=v)->dg f a n=n*v
 |0,a,_=>by simp[dg]
 |n+1,a,h=>by
  simp only[dg];rw[h a (by omega) (by omega),H1 n (a+1) (λd b c=>h d (by omega) (by omega))]
  grind
def qdz{d:Int}(b:a<=d)(h:∀ x∈l,x<=a\/d<x):tH l d=tH l a:=by
 unfold tH;apply List.countP_congr;intro x c;have:=h x c;simp only[ucu];omega
def Ww{f:bm.den}{d:Int}(b:a<=d)(h:∀ x∈f.1,x<=a\/d<x):dz f d=dz f a:=by
 unfold dz;rw[qdz b h]
def zcx{f:bm.den}(h:∀ y∈f.2.1,0<=y)(d:Int):0<=dz f d:=by
 unfold dz;split;exact ufa _;rename_i k _;rw[uah];cases a:f.2.1[k]? with
 |none=>simp
 |some y=>
  have:=h y (ubg a);simpa using this
def V8{s t b v:Int}(j:0<=v)(e:a<b)(i:t<=4000000000000000000):
  js (s,t) (a,b,v)=if t+(b-a)*v<=4000000000000000000 then U (s+(b-a)*v,t+(b-a)*v)else none:=by
 have g:max v (-v)=v:=by omega
 unfold js;simp only[g];have d:v>(4000000000000000000-t)/(b-a)↔¬ t+(b-a)*v<=4000000000000000000:=by
  have:=Int.le_ediv_iff_mul_le (a:=v) (b:=4000000000000000000-t) (c:=b-a) (by omega);rw[ue0 v]at this;omega
 by_cases h:t+(b-a)*v<=4000000000000000000;rw[ufw (by rw[d];exact λf=>f h),ufv h];rw[ufv (d.2 h),ufw h]
def Lj{f:bm.den}(o:∀ d,0<=dz f d){e:Int}:(l:List Int)->(a s t:Int)->l.Pairwise (· < ·)->(∀ x∈f.1,x<=a\/e<=x\/x∈l)->a<e->t<=4000000000000000000 ->
  em (eL f e l a) (s,t)=if t+dg f a (e-a).toNat<=4000000000000000000 then U (s+dg f a (e-a).toNat,t+dg f a (e-a).toNat)else V
 |[],a,s,t,_,j,g,q=>by
  have p:dg f a (e-a).toNat=(e-a)*dz f a:=by
   rw[H1 (e-a).toNat a (λd c y=>Ww c (λx i=>by
    rcases j x i with h|h|h
    exact .inl h;exact .inr (by omega);cases h))]
   congr 1;omega
  rw[p];simp only[eL,em];rw[V8 (o a) g q];split<;>rfl
 |d::l,a,s,t,C,j,g,q=>by
  obtain⟨w,m⟩:=uca.1 C;unfold eL;split;rename_i n;refine Lj o l a s t m (λx i=>?_) g q;rcases j x i with h|h|h
  exact .inl h;exact .inr (.inl h);rcases uei.1 h with rfl|h
  rcases n with h|h
  exact .inl h;exact .inr (.inl h);exact .inr (.inr h);rename_i n;have k:a<d:=by omega
  have u:d<e:=by omega
  have p:dg f a (d-a).toNat=(d-a)*dz f a:=by
   rw[H1 (d-a).toNat a (λD c y=>Ww c (λx i=>by
    rcases j x i with h|h|h
    exact .inl h;exact .inr (by omega);rcases uei.1 h with rfl|h
    exact .inr (by omega);have:=w x h;exact .inr (by omega)))]
   congr 1;omega
  have b:dg f a (e-a).toNat=dg f a (d-a).toNat+dg f d (e-d).toNat:=by
   rw[show(e-a).toNat=(d-a).toNat+(e-d).toNat by omega,Px];congr 2;omega
  have z:=H2 o (e-d).toNat d;simp only[em];rw[V8 (o a) k q,<- p];by_cases c:t+dg f a (d-a).toNat<=4000000000000000000;rw[ufv c];show em (eL f e l d) _=_;have r:∀ x∈f.1,x<=d\/e<=x\/x∈l:=λx i=>by
   rcases j x i with h|h|h
   exact .inl (ue3 h (uet k));exact .inr (.inl h);rcases uei.1 h with rfl|h
   exact .inl (ufa _);exact .inr (.inr h)
  rw[Lj o l d _ _ m r u c];rw[b,Int.add_assoc,Int.add_assoc];have v:¬ t+dg f a (e-a).toNat<=4000000000000000000:=by
   rw[b];clear p b;generalize dg f a (d-a).toNat=A at *;generalize dg f d (e-d).toNat=B at *;omega
  rw[ufw c,ufw v];rfl
structure Pos (f:bm.den):Prop where
 right:jU f=true
 pos:∀ y∈f.2.1,0<=y
def Pos.val{f:bm.den}(h:Pos f)(d:Int):0<=dz f d:=zcx h.pos d
def za1{f:bm.den}(h:Pos f){e:Int}(i:1<=a)(c:a<e)(j:e<=292195):
  eo f (a,e,())=if dg f a (e-a).toNat<=4000000000000000000 then (dg f a (e-a).toNat,0)else (0,5):=by
 obtain⟨l,g,m,n⟩:=Kz h.right;have b:=Lj h.val (e:=e) f.1 a 0 0 g (λx k=>.inr (.inr k)) c (by decide);simp only[Int.zero_add]at b;unfold eo;rw[ufv ⟨h.right,nc.2 ⟨i,c,j⟩⟩,b];by_cases d:dg f a (e-a).toNat<=4000000000000000000;rw[ufv d,ufv d];rw[ufw d,ufw d]
def Sd(f:bm.den)(d:Int):Int:=dg f 1 (dX d-1).toNat
def qg1{p:Int}(h:0<=p):jF p 365=(p+182)/365:=by
 unfold jF;split<;>omega
def qgy{p:Int}(h:0<=p)(a:p<=4000000000000000000):cP p 1 365=((p+182)/365,0):=by
 unfold cP;rw[Int.mul_one,qg1 h,ufw (by omega),ufw (by decide),ufw (by omega)]
def zcv{f:bm.den}(h:Pos f)(d:Int):bT f d=if Sd f d<=4000000000000000000 then ((Sd f d+182)/365,0)else (0,5):=by
 have e:=qdm d;have c:=H2 h.val (dX d-1).toNat 1;unfold bT;by_cases b:dX d=1;rw[ufv b];have:Sd f d=0:=by
  unfold Sd;rw[b];rfl
 rw[this,ufv (by decide)];rfl;rw[ufw b,za1 h (by decide) (by omega) e.2];show gN _ _=_;unfold Sd;by_cases a:dg f 1 (dX d-1).toNat<=4000000000000000000;rw[ufv a,ufv a];show gN (dg f 1 (dX d-1).toNat) 0=_;unfold gN;rw[ufw (λh=>h rfl),qgy c a,ufw (λh=>h rfl)];rw[ufw a,ufw a];rfl
def K0{d v:Int}:{l r:List Int}->(c e:Int)->l.length=r.length ->
  ga (l++[d]) (r++[v]) c e=(ga l r c e&&(J (l.getLast?.getD c<d)&&(J (d<=292194)&&(!(v==r.getLast?.getD e)&&iQ v))))
 |[],[],c,e,_=>by
  show(_&&Z)=(Z&&_);rw[uem,uel];rfl
 |[],_::_,_,_,h=>by simp at h
 |_::_,[],_,_,h=>by simp at h
 |a::l,b::r,c,e,h=>by
  have i:=K0 (d:=d) (v:=v) a b (by simpa using h);simp only[uc4,ga];rw[i];have f:(a::l).getLast?.getD c=l.getLast?.getD a:=by
   rw[List.getLast?_cons];rfl
  have g:(b::r).getLast?.getD e=r.getLast?.getD b:=by
   rw[List.getLast?_cons];rfl
  rw[f,g];simp only[uec]
structure Good (p:List Int×List Int) (m:Int):Prop where
 len:p.1.length=p.2.length
 up:ga p.1 p.2 0 0=true
 le:p.1.getLast?.getD 0<=m
 pos:∀ y∈p.2,0<=y
def QN(h:l.getLast?= U x):l=l.dropLast++[x]:=by
 cases l with
 |nil=>simp at h
 |cons a l=>
  injection h with h
  rw[<- h];exact(List.dropLast_concat_getLast (by simp)).symm
def Good.pop{p:List Int×List Int}{m:Int}(h:Good p m)(g:p.1.getLast?= U day):Good (p.1.dropLast,p.2.dropLast) (day-1)/\day<=m:=by
 obtain⟨at_,val⟩:=p;obtain⟨c,b,f,j⟩:=h;have d:=QN g;cases i:val.getLast? with
 |none=>
  have:val=[]:=by simpa using i
  subst this;rw[d]at c;simp at c
 |some y=>
  have e:=QN i;have a:at_.dropLast.length=val.dropLast.length:=by simp[c]
  rw[d,e,K0 0 0 a]at b;simp at b;refine⟨⟨a,b.1,?_,λz k=>j z ?_⟩,?_⟩;have:=b.2.1;show at_.dropLast.getLast?.getD 0<=day-1;omega;rw[e];exact ubk _ k;rw[g]at f;exact f
def Good.push{p:List Int×List Int}{m v:Int}(h:Good p m)(n:m<day)(b:day<=292194)(k:0<=v/\v<=4000000000000000000)(d:v≠p.2.getLast?.getD 0):Good (p.1++[day],p.2++[v]) day:=by
 obtain⟨e,f,l,g⟩:=h;refine⟨by simp[e],?_,by simp,λz a=>?_⟩;show ga (p.1++[day]) (p.2++[v]) 0 0=Z;rw[K0 0 0 e,f];have j:iQ v=true:=SU.2 (by omega);have i:(v==p.2.getLast?.getD 0)=false:=by simpa using d
 have c:p.1.getLast?.getD 0<day:=by omega
 simp[j,i,c,b];rcases uds.1 a with a|a
 exact g z a;simp at a;subst a;exact k.1
def Good.mono{p:List Int×List Int}{m m':Int}(h:Good p m)(a:m<=m'):Good p m':=⟨h.len,h.up,ue3 h.le a,h.pos⟩
def Good.add{p:List Int×List Int}{m v:Int}(h:Good p m)(o:m<=day)(n:1<=day)(i:0<=v/\v<=4000000000000000000):Good (fK p day v) day:=by
 unfold fK;by_cases b:p.1.getLast?= U day;have g:=(h.pop b).1;simp only[b,if_true];split;rename_i a;exact g.push (by omega) a.2 i a.1;exact g.mono (by omega);simp only[b,ufs];have d:p.1.getLast?.getD 0<=day-1:=by
  have c:=h.le;cases l:p.1.getLast? with
  |none=>show(0:Int)<=_;omega
  |some x=>
   rw[l]at c b;have k:x≠day:=λj=>b (by rw[j]);have f:x<=m:=c;show x<=_;omega
 have e:Good p (day-1):=⟨h.len,h.up,d,h.pos⟩;split;rename_i a;exact e.push (by omega) a.2 i a.1;exact e.mono (by omega)
def QL{s:aB.den}{e:Int}:ne s e=Z↔e<=s.1.1/\s.1.1<s.1.2.1/\s.1.2.1<=292195/\0<=s.2.2.2.2.1/\s.2.2.2.2.1<=4000000000000000000:=by
 simp[ne]
def Good.addS{p:List Int×List Int}{s:aB.den}{e:Int}(h:Good p e)(g:1<=e)(i:ne s e=Z):Good (addS p s) s.1.2.1:=by
 obtain⟨a,b,k,d,f⟩:=QL.1 i;have c:1<=s.1.1:=ue3 g a;have j:1<=s.1.2.1:=ue3 c (uet b);exact(h.add a c ⟨d,f⟩).add (uet b) j (by decide)
def qI:List aB.den->Int->List Int×List Int->Option (Int×(List Int×List Int))
 |[],e,p=>U (e,p)
 |s::l,e,p=>if ne s e=Z then qI l s.1.2.1 (addS p s)else V
def Pe:(l:List aB.den)->(e:Int)->(p:List Int×List Int)->gX l e p=(qI l e p).map (·.2)
 |[],_,_=>rfl
 |s::l,e,p=>by
  simp only[gX,qI];split;exact Pe l _ _;rfl
def Pd:{l:List aB.den} -> {e:Int} -> {p:List Int×List Int} -> {q:Int×(List Int×List Int)}->Good p e->1<=e->qI l e p=U q->Good q.2 q.1/\1<=q.1
 |[],e,p,q,h,b,a=>by
  simp only[qI,ucl]at a;subst a;exact⟨h,b⟩
 |s::l,e,p,q,h,b,a=>by
  simp only[qI]at a;split at a;rename_i c;obtain⟨d,f,_⟩:=QL.1 c;have g:=ue3 (ue3 b d) (uet f);exact Pd (h.addS b c) g a;cases a
def qms:Good ([],[]) 1:=⟨rfl,rfl,by show(0:Int)<=1;decide,by simp⟩
def qex{l:List aB.den}(h:(iG l).isNone=Y):Pos (cy l):=by
 unfold cy;unfold iG at *;split at h;rename_i c;rw[ufv c];rw[Pe]at h |-;cases b:qI l 1 ([],[])with
 |none=>rw[b]at h;cases h
 |some q=>
  have a:=(Pd qms (by decide) b).1;show Pos (q.2.1,q.2.2,());refine⟨?_,a.pos⟩;simp only[jU,a.up,uem,ucu];exact a.len
 cases h
noncomputable def Xa:Cx:=cx [(100,jb)] []
def EF:CxOK prog Xa:=aP aG ⟨Ky,uT⟩ trivial
def IA(x:ag [.d dG]):Fr (aa [.bool]):=
 let a:=x.1.2;Jv (bif bif bif bif bif bif J (x.1.1>=0)then J (x.1.1<4)else Y then bif J (a.1>=1)then J (a.1<=1000000000000000)else Y else Y then J (a.2.1>=0)else Y then J (a.2.1<=200)else Y then J (a.2.2.1>=0)else Y then J (a.2.2.1<100)else Y,())
def qlz:af prog 104 (bg [.d dG] [.bool] IA):=
 aS EF f104
def I8(x:ag [.d i64]):Fr (aa [.bool]):=
 Jv (bif J (x.1>=1)then J (x.1<=292194)else Y,())
def qlm:af prog 108 (bg [.d i64] [.bool] I8):=
 aS EF f108
def QF(x:ag [.d cn]):Fr (aa [cn]):=
 Jb (bif !(jb.f ((x.1.1,x.1.2.1,()),())).1 then Z else x.1.1==x.1.2.1) (Jv ((0,0,()),())) (Jv ((x.1.1,x.1.2.1,()),()))
def qls:af prog 159 (bg [.d cn] [cn] QF):=
 aS EF f159
def n8(k v a z:Int):Bool:=J (0<=k/\k<4/\1<=v/\v<=1000000000000000/\0<=a/\a<=200/\0<=z/\z<100)
def oy:Ct:=⟨[.d dG],[.bool],λx=>(n8 x.1.1 x.1.2.1 x.1.2.2.1 x.1.2.2.2.1,()),λ_=>[]⟩
def K2:af prog 104 oy:=
 conv qlz _ _ (λ_ _ x _ _ _=>by
  obtain⟨⟨k,v,a,z,_⟩,_⟩:=x;refine⟨by simp[av,Fr.ok,IA],?_⟩;dsimp only[IA,Fr.get,n8,Ty.den,PT.den];simp only[uby,ubb];congr 1;rw[udx];simp only[udc,udt,ucu];omega)
def o7(p l g d s:Int):Bool:=J (0<=p/\p<8/\1<=s/\s<=10000/\0<=d/\d<l/\l<=g/\g<=1000000000000000)
def j6:Ct:=⟨[.d ak],[.bool],λx=>(o7 x.1.1 x.1.2.1 x.1.2.2.1 x.1.2.2.2.1 x.1.2.2.2.2.1,()),λ_=>[]⟩
def g8(d:Int):Bool:=J (1<=d/\d<=292194)
def zmx:Ct:=⟨[.d i64],[.bool],λx=>(g8 x.1,()),λ_=>[]⟩
def Pk:af prog 108 zmx:=
 conv qlm _ _ (λ_ _ x _ _ _=>by
  obtain⟨d,_⟩:=x;refine⟨by simp[av,Fr.ok,I8],?_⟩;dsimp only[I8,Fr.get,g8,Ty.den,PT.den];simp only[ubb];congr 1;rw[udx];simp only[udc,ucu,ge_iff_le])
def gr(a b d:Int):Bool:=J (1<=a/\b<=292195/\a<=d/\d<b)
def fM:Ct:=⟨[.d cn,.d i64],[.bool],λx=>(gr x.1.1 x.1.2.1 x.2.1,()),λ_=>[]⟩
def rn(s:cn.den):cn.den:=if dN s=Z then s else (0,0,())
def tu:Ct:=⟨[.d cn],[cn],λx=>(rn x.1,()),λ_=>[]⟩
def qo2(a b:Int):((¬a>=1\/¬a<=b\/¬b<=292195)\/a=b)↔(¬a>=1\/¬a<b\/¬b<=292195):=by omega
def qoz(a b:Int):(bif !(jT (a,b,()))then Z else a==b)=!(dN (a,b,())):=by
 dsimp only[jT,dN,Ty.den,PT.den];simp only[uby];rw[udx];simp only[udc,udt,ucv,Bool.and_eq_false_iff,ucu,uav,ufh];exact qo2 a b
def qo1:af prog 159 tu:=
 conv qls _ _ (λ_ _ x _ _ _=>by
  obtain⟨⟨a,b,_⟩,_⟩:=x;refine⟨by simp[av,Fr.ok,QF],?_⟩;show(if (bif !(jT (a,b,()))then Z else a==b)=Z then (((0,0,()),()):cn.den×Unit)else ((a,b,()),()))=(if dN (a,b,())=Z then (a,b,())else (0,0,()),());rw[qoz];cases dN (a,b,())<;>rfl)
noncomputable def Xb:Cx:=cx [(159,tu)] []
def LR:CxOK prog Xb:=aP aG ⟨qo1,uT⟩ trivial
abbrev aV(T:Ty):PT:=.pf [T,T] [i64]
def aM{T:Ty}(g:(aV T).den)(x y:T.den):Bool:=J ((g.1 (x,y,())).1<0)
def jv{T:Ty}(g:(aV T).den)(l:List T.den):Prop:=∀ x∈l,∀ y∈l,g.2 (x,y,())
def jv.sub{T:Ty}{g:(aV T).den}{l s:List T.den}(h:jv g l)(a:∀ x∈s,x∈l):jv g s:=λx b y c=>h x (a x b) y (a y c)
def qna(h:i+j<=9223372036854775807):I6.wrap ((IntKind.u64.wrap (I6.wrap ((i:Int)+j))).fdiv (2 ^ min (Int.toNat 1) IntKind.u64.bits))=((i+j)/2:Nat):=by
 have a:I6.wrap ((i:Int)+j)=(i:Int)+j:=IntWalk.i64_in _ (by omega);have b:IntKind.u64.wrap ((i:Int)+j)=(i:Int)+j:=IntWalk.u64_in _ (by omega);have c:(2:Int) ^ min (Int.toNat 1) IntKind.u64.bits=2:=by decide
 rw[a,b,c,uag _ (by decide),IntWalk.i64_in _ (by omega)];omega
def Fo(h:i+j<=9223372036854775807):I6.wrap ((i:Int)+j)=(i+j:Nat):=by
 rw[IntWalk.i64_in _ (by omega)];omega
def zv(h:i+1<=9223372036854775807):I6.wrap ((i:Int)+1)=(i+1:Nat):=by
 rw[IntWalk.i64_in _ (by omega)];omega
def zu(h:j<=i)(a:i<=9223372036854775807):I6.wrap ((i:Int)-j)=(i-j:Nat):=by
 rw[IntWalk.i64_in _ (by omega)];omega
def Uk(h:1<=i)(a:i<=9223372036854775807):I6.wrap ((i:Int)-1)=(i-1:Nat):=by
 rw[IntWalk.i64_in _ (by omega)];omega
def ka{T:Ty}{l:List T.den}:(fx l T.dflt i j).length=l.length:=by simp[fx]
def VA{T:Ty}{l:List T.den}(hi:i<l.length)(c:j<l.length){x:T.den}(h:x∈fx l T.dflt i j):x∈l:=by
 unfold fx at h;have a:l.getD i T.dflt∈l:=fo hi;have b:l.getD j T.dflt∈l:=fo c;rcases uap h with h|rfl
 rcases uap h with h|rfl
 exact h;exact b;exact a
abbrev eO(e:TypeId)(T:Ty):Pt:=⟨53,2,⟨[(1,.d i64),(2,.d i64),(3,(aV T)),(8,.d i64),(9,.d i64)],[.al 10000 0,.o 0 e T]⟩,⟨[(1,.d i64),(2,.d i64),(3,(aV T)),(8,.d i64)],[.al 10000 0,.o 0 e T]⟩,⟨[],[]⟩⟩
noncomputable def dB:Cx:=cx [] []
def aH:CxOK prog dB:=aP aG trivial trivial
def xI(e:TypeId)(T:Ty)(x:(eO e T).M.X):Fr (eO e T).Out:=
 let a:=x.1.1;let j:=x.1.2.2.2.2.1;let g:=x.1.2.2.1;let l:=x.2.1
 Jd (J (j>a)=Z->0<=j/\j<l.length)
  (Jd (J (j>a)=Z->j.toNat<l.length)
   (Jd (J (j>a)=Z->0<=I6.wrap (j-1)/\I6.wrap (j-1)<l.length)
    (Jd (J (j>a)=Z->(I6.wrap (j-1)).toNat<l.length)
     (Jd (J (j>a)=Z->g.2 (l.getD j.toNat T.dflt,l.getD (I6.wrap (j-1)).toNat T.dflt,()))
      (Jb (bif J (j>a)then J ((g.1 (l.getD j.toNat T.dflt,l.getD (I6.wrap (j-1)).toNat T.dflt,())).1<0)else Y)
       (Jd (0<=I6.wrap (j-1)/\I6.wrap (j-1)<l.length)
        (Jd ((I6.wrap (j-1)).toNat<l.length)
         (Jd (0<=j/\j<l.length)
          (Jd (j.toNat<l.length)
           (Jd (0<=j/\j<l.length)
            (Jd (j.toNat<l.length)
             (Jd (0<=I6.wrap (j-1)/\I6.wrap (j-1)<(l.set j.toNat (l.getD (I6.wrap (j-1)).toNat T.dflt)).length)
              (Jd ((I6.wrap (j-1)).toNat<(l.set j.toNat (l.getD (I6.wrap (j-1)).toNat T.dflt)).length)
               (Jv (Rd.next ((a,x.1.2.1,(g.1,g.2),x.1.2.2.2.1,I6.wrap (j-1),()),
                ((l.set j.toNat (l.getD (I6.wrap (j-1)).toNat T.dflt)).set (I6.wrap (j-1)).toNat (l.getD j.toNat T.dflt),()))))))))))))
       (Jv (Rd.out ((a,x.1.2.1,(g.1,g.2),x.1.2.2.2.1,()),(l,())))))))))
structure InvInsI {T:Ty} (a j:Int) (g:(aV T).den) (l:List T.den):Prop where
 a0:0<=a
 aj:a<=j
 jl:j<l.length
 big:(l.length:Int)<=9223372036854775807
 dom:jv g l
def sG(e:TypeId)(T:Ty)(x:(eO e T).M.X):Fr (eO e T).Out:=
 Jd (InvInsI x.1.1 x.1.2.2.2.2.1 x.1.2.2.1 x.2.1) (Jv (Rd.out ((x.1.1,x.1.2.1,x.1.2.2.1,x.1.2.2.2.1,()),(fp (aM x.1.2.2.1) T.dflt x.1.1.toNat x.1.2.2.2.2.1.toNat x.2.1,()))))
def qpr {T:Ty} (a b i j:Int) (g:(aV T).den) (l:List T.den) (r:InvInsI a j g l) (Q:(eO e T).Out->Prop)
  (c:Q (Rd.out ((a,b,g,i,()),(fp (aM g) T.dflt a.toNat j.toNat l,())))):((xI e T) ((a,b,g,i,j,()),(l,()))).satP λ
   |.next m=>InvInsI m.1.1 m.1.2.2.2.2.1 m.1.2.2.1 m.2.1/\m.1.2.2.2.2.1.toNat<j.toNat/\((sG e T) m).satP Q
   |.out y=>Q (.out y)
   |.back z=>Q (.back z)
   |.pan p=>Q (.pan p):=by
 obtain⟨D,E,F,G,v⟩:=r;obtain⟨o,rfl⟩:∃ n:Nat,a=n:=⟨a.toNat,by omega⟩;obtain⟨f,rfl⟩:∃ n:Nat,j=n:=⟨j.toNat,by omega⟩;dsimp only[xI,Fr.satP,Ty.den,PT.den];by_cases H:o<f;obtain⟨k,rfl⟩:∃ k,f=k+1:=⟨f-1,by omega⟩;have s:k+1<l.length:=by omega
 have A:I6.wrap (((k+1:Nat):Int)-1)=(k:Nat):=by rw[Uk (by omega) (by omega)];rfl
 have t:J (((k+1:Nat):Int)>(o:Int))=true:=uea (by omega);have B:((k+1:Nat):Int).toNat=k+1:=rfl;have C:((k:Nat):Int).toNat=k:=rfl;rw[A,t,B,C];simp only[udo];refine⟨λ_=>⟨by omega,by omega⟩,λ_=>by omega,λ_=>⟨by omega,by omega⟩,λ_=>by omega,λ_=>v _ (fo s) _ (fo (by omega)),λq=>?_,λq=>?_⟩;refine⟨⟨by omega,by omega⟩,by omega,⟨by omega,by omega⟩,by omega,⟨by omega,by omega⟩,by omega,⟨by omega,by omega⟩,by omega,?_⟩;have w:InvInsI o k g (fx l T.dflt (k+1) k):=⟨by omega,by omega,by rw[ka];omega,by rw[ka];omega,v.sub λx u=>VA s (by omega) u⟩;refine⟨w,by omega,w,?_⟩;simp only[uc0,fp]at c |-;rw[ufv (by omega)]at c;have d:aM g (l.getD (k+1) T.dflt) (l.getD k T.dflt)=true:=q;rw[d]at c;exact c;simp only[uc0,fp]at c;rw[ufv (by omega)]at c;have d:aM g (l.getD (k+1) T.dflt) (l.getD k T.dflt)=false:=q;rw[d]at c;exact c;have t:J ((f:Int)>(o:Int))=false:=udv (by omega);rw[t];refine⟨λh=>(by cases h),λh=>(by cases h),λh=>(by cases h),λh=>(by cases h),λh=>(by cases h),λq=>(by cases q),λ_=>?_⟩;have u:fp (aM g) T.dflt o f l=l:=by
  cases f with
  |zero=>rfl
  |succ k=>simp only[fp];rw[ufw (by omega)]
 simp only[uc0,u]at c;exact c
def S5{T:Ty}{c:Code}(f:ae P c (eO e T).M (eO e T) (xI e T)):ae P (.loop c) (eO e T).M (eO e T) (sG e T):=by
 refine ae.loop (n:=53) (id:=2) f (inv:=λx=>InvInsI x.1.1 x.1.2.2.2.2.1 x.1.2.2.1 x.2.1) (μ:=λx=>x.1.2.2.2.2.1.toNat) ?_ (λx Q h=>h.1);rintro⟨⟨a,b,g,i,j,_⟩,⟨l,_⟩⟩ d Q k;exact qpr a b i j g l d Q k.2
abbrev eP(e:TypeId)(T:Ty):Pt:=⟨53,0,⟨[(1,.d i64),(2,.d i64),(3,(aV T)),(8,.d i64)],[.al 10000 0,.o 0 e T]⟩,⟨[],[.al 10000 0,.o 0 e T]⟩,⟨[],[]⟩⟩
def xJ(e:TypeId)(T:Ty)(x:(eP e T).M.X):Fr (eP e T).Out:=
 let a:=x.1.1;let b:=x.1.2.1;let g:=x.1.2.2.1;let i:=x.1.2.2.2.1;let l:=x.2.1
 Jb (J (i<b))
  (Jd (InvInsI a i (g.1,g.2) l) (Jv (Rd.next ((a,b,(g.1,g.2),I6.wrap (i+1),()),(fp (aM (g.1,g.2)) T.dflt a.toNat i.toNat l,())))))
  (Jv (Rd.out ((),(l,()))))
def RL{T:Ty}{lt:T.den->T.den->Bool}{a:Nat}:(j:Nat) -> {l:List T.den}->j<l.length->∀ x∈fp lt T.dflt a j l,x∈l
 |0,_,_,_,h=>h
 |j+1,l,c,x,h=>by
  simp only[fp]at h;split at h;cases b:lt (l.getD (j+1) T.dflt) (l.getD j T.dflt)with
  |true=>
   rw[b]at h;exact VA c (by omega) (RL j (by rw[ka];omega) x h)
  |false=>
   rw[b]at h;exact h
  exact h
def IX{T:Ty}{lt:T.den->T.den->Bool}{a:Nat}:(j:Nat) -> {l:List T.den}->(fp lt T.dflt a j l).length=l.length
 |0,_=>rfl
 |j+1,l=>by
  simp only[fp];split;cases lt (l.getD (j+1) T.dflt) (l.getD j T.dflt)with
  |true=>rw[cond_true,IX j,ka]
  |false=>rfl
  rfl
structure InvInsO {T:Ty} (a b i:Int) (g:(aV T).den) (l:List T.den):Prop where
 a0:0<=a
 ai:a<i
 bl:b<=l.length
 il:i<=9223372036854775807
 big:(l.length:Int)<=9223372036854775807
 dom:jv g l
def sH(e:TypeId)(T:Ty)(x:(eP e T).M.X):Fr (eP e T).Out:=
 Jd (InvInsO x.1.1 x.1.2.1 x.1.2.2.2.1 x.1.2.2.1 x.2.1) (Jv (Rd.out ((),(lI (aM x.1.2.2.1) T.dflt x.1.1.toNat (x.1.2.1-x.1.2.2.2.1).toNat x.1.2.2.2.1.toNat x.2.1,()))))
def qps {T:Ty} (a b i:Int) (g:(aV T).den) (l:List T.den) (d:InvInsO a b i g l) (Q:(eP e T).Out->Prop)
  (f:Q (Rd.out ((),(lI (aM g) T.dflt a.toNat (b-i).toNat i.toNat l,())))):((xJ e T) ((a,b,g,i,()),(l,()))).satP λ
   |.next c=>InvInsO c.1.1 c.1.2.1 c.1.2.2.2.1 c.1.2.2.1 c.2.1/\(c.1.2.1-c.1.2.2.2.1).toNat<(b-i).toNat/\((sH e T) c).satP Q
   |.out y=>Q (.out y)
   |.back z=>Q (.back z)
   |.pan p=>Q (.pan p):=by
 obtain⟨j,v,q,w,k,m⟩:=d;dsimp only[xJ,Fr.satP,Ty.den,PT.den];refine⟨λhi=>?_,λhi=>?_⟩;have s:=ucx hi;have t:I6.wrap (i+1)=i+1:=IntWalk.i64_in _ (by omega);have n:InvInsO a b (i+1) g (fp (aM g) T.dflt a.toNat i.toNat l):=⟨j,by omega,by rw[IX];exact q,by omega,by rw[IX];exact k,m.sub λx u=>RL _ (by omega) x u⟩;refine⟨⟨j,by omega,by omega,k,m⟩,?_⟩;rw[t];refine⟨n,by omega,n,?_⟩;have h:(b-i).toNat=(b-(i+1)).toNat+1:=by omega
 have o:(i+1).toNat=i.toNat+1:=by omega
 rw[h]at f;rw[o];exact f;have r:=uch hi;have h:(b-i).toNat=0:=by omega
 rw[h]at f;exact f
def S6{T:Ty}{c:Code}(f:ae P c (eP e T).M (eP e T) (xJ e T)):ae P (.loop c) (eP e T).M (eP e T) (sH e T):=by
 refine ae.loop f (μ:=λx=>(x.1.2.1-x.1.2.2.2.1).toNat) ?_ (λx Q h=>h.1);rintro⟨⟨a,b,g,i,_⟩,⟨l,_⟩⟩ d Q j;exact qps a b i g l d Q j.2
def gR{T:Ty}(g:(aV T).den)(l:List T.den):Prop:=jv g l/\∃ key:T.den->Int,dd (aM g) key l
def gR.sub{T:Ty}{g:(aV T).den}{l s:List T.den}(h:gR g l)(a:∀ x∈s,x∈l):gR g s:=by
 obtain⟨b,key,c⟩:=h;exact⟨b.sub a,key,c.sub a⟩
noncomputable def kQ(e:TypeId)(T:Ty):Mt:=⟨e,T,[.d i64,.d i64,(aV T)],[],λl x=>(bA (aM x.2.2.1) x.1.toNat x.2.1.toNat l,()),λl x=>[0<=x.1,x.1<=x.2.1,x.2.1<=l.length,(l.length:Int)<=4611686018427387903,gR x.2.2.1 l]⟩
def xK(e:TypeId)(T:Ty)(l:List T.den)(x:ag [.d i64,.d i64,(aV T)]):Fr (List T.den×aa []):=
 let b:=(x.2.2.1.1,x.2.2.1.2);let a:=I6.wrap (x.1+1);Jd (InvInsO x.1 x.2.1 a b l)
  (Jv (lI (aM b) T.dflt x.1.toNat (x.2.1-I6.wrap (x.1+1)).toNat a.toNat l,()))
def RO{T:Ty}(l:List T.den)(xs:ag (kQ e T).ps)(c:l.length<=maxLen)(i:av ((kQ e T).ok l xs)):av [((xK e T) l xs).ok]/\((xK e T) l xs).get=(kQ e T).f l xs:=by
 obtain⟨a,b,g,rfl⟩:∃ (a b:Int) (g:(aV T).den),xs=(a,b,g,()):=⟨xs.1,xs.2.1,xs.2.2.1,rfl⟩;have h:(0:Int)<=a/\(a:Int)<=b/\(b:Int)<=(List.length (α:=T.den) l:Int)/\(List.length (α:=T.den) l:Int)<=4611686018427387903/\gR g l:=i;obtain⟨j,p,k,c,m,key,n⟩:=h;have o:I6.wrap (a+1)=a+1:=IntWalk.i64_in _ (by omega);dsimp only[xK,Fr.ok,Fr.get,Ty.den,PT.den];rw[o];refine⟨⟨⟨j,by omega,k,by omega,by omega,m⟩,uT⟩,?_⟩;have:=qn1 (key:=key) (lt:=aM g) (d:=T.dflt) (a:=a.toNat) (b:=b.toNat) (l:=l) (by omega) (by omega) n;show(lI (aM g) T.dflt a.toNat (b-(a+1)).toNat (a+1).toNat l,())=(bA (aM g) a.toNat b.toNat l,());rw[<- this,show(b-(a+1)).toNat=b.toNat-(a.toNat+1) by omega,show(a+1).toNat=a.toNat+1 by omega]
abbrev eX(e:TypeId)(T:Ty):Pt:=⟨38,0,⟨[(1,.d i64),(2,.d i64),(3,.d i64),(10,.d i64)],[.al 10000 0,.o 0 e T]⟩,⟨[],[.al 10000 0,.o 0 e T]⟩,⟨[],[]⟩⟩
def xU(e:TypeId)(T:Ty)(x:(eX e T).M.X):Fr (eX e T).Out:=
 let a:=x.1.1;let b:=x.1.2.1;let n:=x.1.2.2.1;let i:=x.1.2.2.2.1;let l:=x.2.1
 Jb (J (i<n))
  (Jd (0<=I6.wrap (b+i)/\I6.wrap (b+i)<l.length)
   (Jd ((I6.wrap (b+i)).toNat<l.length)
    (Jd (0<=I6.wrap (a+i)/\I6.wrap (a+i)<l.length)
     (Jd ((I6.wrap (a+i)).toNat<l.length)
      (Jd (0<=I6.wrap (a+i)/\I6.wrap (a+i)<l.length)
       (Jd ((I6.wrap (a+i)).toNat<l.length)
        (Jd (0<=I6.wrap (b+i)/\I6.wrap (b+i)<(l.set (I6.wrap (a+i)).toNat (l.getD (I6.wrap (b+i)).toNat T.dflt)).length)
         (Jd ((I6.wrap (b+i)).toNat<(l.set (I6.wrap (a+i)).toNat (l.getD (I6.wrap (b+i)).toNat T.dflt)).length)
          (Jv (Rd.next ((a,b,n,I6.wrap (i+1),()),
           ((l.set (I6.wrap (a+i)).toNat (l.getD (I6.wrap (b+i)).toNat T.dflt)).set (I6.wrap (b+i)).toNat (l.getD (I6.wrap (a+i)).toNat T.dflt),()))))))))))))
  (Jv (Rd.out ((),(l,()))))
structure InvSwp {T:Ty} (a b n i:Int) (l:List T.den):Prop where
 a0:0<=a
 b0:0<=b
 i0:0<=i
 al:a+n<=l.length
 bl:b+n<=l.length
 big:(l.length:Int)<=9223372036854775807
def sP(e:TypeId)(T:Ty)(x:(eX e T).M.X):Fr (eX e T).Out:=
 Jd (InvSwp x.1.1 x.1.2.1 x.1.2.2.1 x.1.2.2.2.1 x.2.1) (Jv (Rd.out ((),(e9 T.dflt (x.1.2.2.1-x.1.2.2.2.1).toNat (x.1.1+x.1.2.2.2.1).toNat (x.1.2.1+x.1.2.2.2.1).toNat x.2.1,()))))
def qp7 {T:Ty} (a b n i:Int) (l:List T.den) (d:InvSwp a b n i l) (Q:(eX e T).Out->Prop)
  (f:Q (Rd.out ((),(e9 T.dflt (n-i).toNat (a+i).toNat (b+i).toNat l,())))):((xU e T) ((a,b,n,i,()),(l,()))).satP λ
   |.next c=>InvSwp c.1.1 c.1.2.1 c.1.2.2.1 c.1.2.2.2.1 c.2.1/\(c.1.2.2.1-c.1.2.2.2.1).toNat<(n-i).toNat/\((sP e T) c).satP Q
   |.out y=>Q (.out y)
   |.back z=>Q (.back z)
   |.pan p=>Q (.pan p):=by
 obtain⟨h,j,s,t,u,v⟩:=d;dsimp only[xU,Fr.satP,Ty.den,PT.den];refine⟨λhi=>?_,λhi=>?_⟩;have m:=ucx hi;have o:I6.wrap (b+i)=b+i:=IntWalk.i64_in _ (by omega);have q:I6.wrap (a+i)=a+i:=IntWalk.i64_in _ (by omega);have r:I6.wrap (i+1)=i+1:=IntWalk.i64_in _ (by omega);rw[o,q,r];simp;refine⟨⟨by omega,by omega⟩,by omega,⟨by omega,by omega⟩,by omega,⟨by omega,by omega⟩,by omega,⟨by omega,by omega⟩,by omega,?_⟩;have g:InvSwp a b n (i+1) (fx l T.dflt (a+i).toNat (b+i).toNat):=⟨h,j,by omega,by rw[ka];omega,by rw[ka];omega,by rw[ka];omega⟩;refine⟨g,by omega,g,?_⟩;rw[show(n-i).toNat=(n-(i+1)).toNat+1 by omega]at f;rw[show(a+(i+1)).toNat=(a+i).toNat+1 by omega,show(b+(i+1)).toNat=(b+i).toNat+1 by omega];exact f;have k:=uch hi;rw[show(n-i).toNat=0 by omega]at f;exact f
def SE{T:Ty}{c:Code}(f:ae P c (eX e T).M (eX e T) (xU e T)):ae P (.loop c) (eX e T).M (eX e T) (sP e T):=by
 refine ae.loop f (μ:=λx=>(x.1.2.2.1-x.1.2.2.2.1).toNat) ?_ (λx Q h=>h.1);rintro⟨⟨a,b,n,i,_⟩,⟨l,_⟩⟩ d Q g;exact qp7 a b n i l d Q g.2
noncomputable def jL(e:TypeId)(T:Ty):Mt:=⟨e,T,[.d i64,.d i64,.d i64,(aV T)],[],λl x=>(e9 T.dflt x.2.2.1.toNat x.1.toNat x.2.1.toNat l,()),λl x=>[0<=x.1,0<=x.2.1,x.1+x.2.2.1<=l.length,x.2.1+x.2.2.1<=l.length]⟩
def Ca(e:TypeId)(T:Ty)(l:List T.den)(x:ag [.d i64,.d i64,.d i64,(aV T)]):Fr (List T.den×aa []):=
 Jd (InvSwp x.1 x.2.1 x.2.2.1 0 l) (Jv (e9 T.dflt (x.2.2.1-0).toNat (x.1+0).toNat (x.2.1+0).toNat l,()))
def VE{T:Ty}(l:List T.den)(xs:ag (jL e T).ps)(c:l.length<=maxLen)(h:av ((jL e T).ok l xs)):av [((Ca e T) l xs).ok]/\((Ca e T) l xs).get=(jL e T).f l xs:=by
 obtain⟨a,b,n,g,rfl⟩:∃ (a b n:Int) (g:(aV T).den),xs=(a,b,n,g,()):=⟨xs.1,xs.2.1,xs.2.2.1,xs.2.2.2.1,rfl⟩;have d:(0:Int)<=a/\(0:Int)<=b/\(a:Int)+n<=(List.length (α:=T.den) l:Int)/\(b:Int)+n<=(List.length (α:=T.den) l:Int):=h;obtain⟨i,j,k,m⟩:=d;simp only[maxLen]at c;refine⟨⟨⟨i,j,ufa _,k,m,by omega⟩,uT⟩,?_⟩;show(e9 T.dflt (n-0).toNat (a+0).toNat (b+0).toNat l,())=(e9 T.dflt n.toNat a.toNat b.toNat l,());rw[uer,ue4,ue4]
def At{Q:Nat->Bool}:(f a i j:Nat)->j-i<=f->j-i<=a->cp Q f i j=cp Q a i j
 |0,0,_,_,_,_=>rfl
 |0,a+1,i,j,h,_=>by simp only[cp];rw[ufw (by omega)]
 |f+1,0,i,j,_,h=>by simp only[cp];rw[ufw (by omega)]
 |f+1,a+1,i,j,h,b=>by
  simp only[cp];split;cases Q ((i+j)/2)with
  |true=>exact At f a _ _ (by omega) (by omega)
  |false=>exact At f a _ _ (by omega) (by omega)
  rfl
def FP{Q:Nat->Bool}(h:i<j):cp Q (j-i) i j=bif Q ((i+j)/2)then cp Q (j-((i+j)/2+1)) ((i+j)/2+1) j else cp Q ((i+j)/2-i) i ((i+j)/2):=by
 obtain⟨f,a⟩:∃ f,j-i=f+1:=⟨j-i-1,by omega⟩;rw[a];simp only[cp];rw[ufv h];cases Q ((i+j)/2)with
 |true=>exact At _ _ _ _ (by omega) (by omega)
 |false=>exact At _ _ _ _ (by omega) (by omega)
def D4{d:α}:(f a i j:Nat)->(l:List α)->0<i->0<j->i+j<=f->i+j<=a->dH d m f i j l=dH d m a i j l
 |0,_,i,j,_,_,_,_,_=>by omega
 |f+1,0,i,j,_,_,_,_,_=>by omega
 |f+1,a+1,i,j,l,b,c,e,g=>by
  simp only[dH];split;rfl;split;exact D4 f a _ _ _ (by omega) (by omega) (by omega) (by omega);exact D4 f a _ _ _ (by omega) (by omega) (by omega) (by omega)
abbrev eR(e:TypeId)(T:Ty):Pt:=⟨58,0,⟨[(2,.d i64),(4,(aV T)),(10,.d i64),(11,.d i64)],[.al 10000 0,.o 0 e T]⟩,⟨[(2,.d i64),(4,(aV T)),(10,.d i64)],[.al 10000 0,.o 0 e T]⟩,⟨[],[]⟩⟩
noncomputable def xM(e:TypeId)(T:Ty)(x:(eR e T).M.X):Fr (eR e T).Out:=
 let m:=x.1.1;let g:=x.1.2.1;let i:=x.1.2.2.1;let j:=x.1.2.2.2.1;let l:=x.2.1
 Jb (i != j)
  (Jb (J (i>j))
   (Jd (0<=I6.wrap (m-i))
    (Jd (0<=m)
     (Jd (I6.wrap (m-i)+j<=(l.length:Int))
      (Jd (m+j<=(l.length:Int))
       (Jv (Rd.next ((m,(g.1,g.2),I6.wrap (i-j),j,()),(((jL e T).f l (I6.wrap (m-i),m,j,(g.1,g.2),())).1,()))))))))
   (Jd (0<=I6.wrap (m-i))
    (Jd (0<=I6.wrap (I6.wrap (m+j)-i))
     (Jd (I6.wrap (m-i)+i<=(l.length:Int))
      (Jd (I6.wrap (I6.wrap (m+j)-i)+i<=(l.length:Int))
       (Jv (Rd.next ((m,(g.1,g.2),i,I6.wrap (j-i),()),(((jL e T).f l (I6.wrap (m-i),I6.wrap (I6.wrap (m+j)-i),i,(g.1,g.2),())).1,())))))))))
  (Jv (Rd.out ((m,(g.1,g.2),i,()),(l,()))))
def zj7{T:Ty}:(n a b:Nat)->(l:List T.den)->(e9 T.dflt n a b l).length=l.length
 |0,_,_,_=>rfl
 |n+1,a,b,l=>by simp only[e9];rw[zj7 n,ka]
structure InvRot {T:Ty} (m i j:Int) (l:List T.den):Prop where
 i0:0<i
 j0:0<j
 im:i<=m
 ml:m+j<=l.length
 big:(l.length:Int)<=4611686018427387903
def sJ(e:TypeId)(T:Ty)(x:(eR e T).M.X):Fr (eR e T).Out:=
 Jd (InvRot x.1.1 x.1.2.2.1 x.1.2.2.2.1 x.2.1) (Jv (Rd.out ((x.1.1,x.1.2.1,((dH T.dflt x.1.1.toNat (x.1.2.2.1.toNat+x.1.2.2.2.1.toNat) x.1.2.2.1.toNat x.1.2.2.2.1.toNat x.2.1).1:Nat),()),
  ((dH T.dflt x.1.1.toNat (x.1.2.2.1.toNat+x.1.2.2.2.1.toNat) x.1.2.2.1.toNat x.1.2.2.2.1.toNat x.2.1).2,()))))
def qp0 {T:Ty} (m i j:Int) (g:(aV T).den) (l:List T.den) (d:InvRot m i j l) (Q:(eR e T).Out->Prop)
  (a:Q (Rd.out ((m,g,((dH T.dflt m.toNat (i.toNat+j.toNat) i.toNat j.toNat l).1:Nat),()),((dH T.dflt m.toNat (i.toNat+j.toNat) i.toNat j.toNat l).2,())))):((xM e T) ((m,g,i,j,()),(l,()))).satP λ
   |.next b=>InvRot b.1.1 b.1.2.2.1 b.1.2.2.2.1 b.2.1/\b.1.2.2.1.toNat+b.1.2.2.2.1.toNat<i.toNat+j.toNat/\((sJ e T) b).satP Q
   |.out y=>Q (.out y)
   |.back z=>Q (.back z)
   |.pan p=>Q (.pan p):=by
 obtain⟨n,o,q,D,E⟩:=d;obtain⟨f,s⟩:∃ f,i.toNat+j.toNat=f+1:=⟨i.toNat+j.toNat-1,by omega⟩;have w:I6.wrap (m-i)=m-i:=IntWalk.i64_in _ (by omega);have x:I6.wrap (i-j)=i-j:=IntWalk.i64_in _ (by omega);have A:I6.wrap (m+j)=m+j:=IntWalk.i64_in _ (by omega);have B:I6.wrap (m+j-i)=m+j-i:=IntWalk.i64_in _ (by omega);have C:I6.wrap (j-i)=j-i:=IntWalk.i64_in _ (by omega);dsimp only[xM,Fr.satP,Ty.den,PT.den,jL];rw[w,x,A,B,C];rw[s]at a;simp only[dH]at a;refine⟨λh=>⟨λk=>?_,λk=>?_⟩,λh=>?_⟩;have t:i>j:=ucx k;rw[ufw (by omega),ufv (by omega)]at a;have c:InvRot m (i-j) j (e9 T.dflt j.toNat (m-i).toNat m.toNat l):=⟨by omega,o,by omega,by rw[zj7];omega,by rw[zj7];omega⟩;refine⟨by omega,by omega,by omega,by omega,c,by omega,c,?_⟩;dsimp only[Ty.den,PT.den];rw[D4 _ f (i-j).toNat j.toNat _ (by omega) (by omega) (ue9 _) (by omega),show(i-j).toNat=i.toNat-j.toNat by omega,show(m-i).toNat=m.toNat-i.toNat by omega];exact a;have u:¬ i>j:=uch k;have v:i≠j:=by simpa using h
 rw[ufw (by omega),ufw (by omega)]at a;have c:InvRot m i (j-i) (e9 T.dflt i.toNat (m-i).toNat (m+j-i).toNat l):=⟨n,by omega,q,by rw[zj7];omega,by rw[zj7];omega⟩;refine⟨by omega,by omega,by omega,by omega,c,by omega,c,?_⟩;dsimp only[Ty.den,PT.den];rw[D4 _ f i.toNat (j-i).toNat _ (by omega) (by omega) (ue9 _) (by omega),show(j-i).toNat=j.toNat-i.toNat by omega,show(m-i).toNat=m.toNat-i.toNat by omega,show(m+j-i).toNat=m.toNat+j.toNat-i.toNat by omega];exact a;have r:i=j:=by simpa using h
 rw[ufv (by omega)]at a;have:((i.toNat:Nat):Int)=i:=by omega
 rw[this]at a;exact a
def S8{T:Ty}{c:Code}(b:ae P c (eR e T).M (eR e T) (xM e T)):ae P (.loop c) (eR e T).M (eR e T) (sJ e T):=by
 refine ae.loop (n:=58) (id:=0) b (inv:=λx=>InvRot x.1.1 x.1.2.2.1 x.1.2.2.2.1 x.2.1) (μ:=λx=>x.1.2.2.1.toNat+x.1.2.2.2.1.toNat) ?_ (λx Q h=>h.1);rintro⟨⟨m,g,i,j,_⟩,⟨l,_⟩⟩ a Q d;exact qp0 m i j g l a Q d.2
def K4{T:Ty}{m:Nat}:(f i j:Nat)->(l:List T.den)->0<i->0<j->i+j<=f->0<(dH T.dflt m f i j l).1/\(dH T.dflt m f i j l).1<=i/\(dH T.dflt m f i j l).1<=j/\(dH T.dflt m f i j l).2.length=l.length
 |0,i,j,l,_,_,_=>by omega
 |f+1,i,j,l,a,b,c=>by
  simp only[dH];split;exact⟨a,ue9 _,by omega,rfl⟩;split;have:=K4 (m:=m) f (i-j) j (e9 T.dflt j (m-i) m l) (by omega) b (by omega);rw[zj7]at this;omega;have:=K4 (m:=m) f i (j-i) (e9 T.dflt i (m-i) (m+j-i) l) a (by omega) (by omega);rw[zj7]at this;omega
noncomputable def pb(e:TypeId)(T:Ty):Mt:=⟨e,T,[.d i64,.d i64,.d i64,(aV T)],[],λl x=>(pC T.dflt x.1.toNat x.2.1.toNat x.2.2.1.toNat l,()),λl x=>[0<=x.1,x.1<x.2.1,x.2.1<x.2.2.1,x.2.2.1<=l.length,(l.length:Int)<=4611686018427387903]⟩
def U8{T:Ty}(m i j:Int)(l:List T.den):Int:=((dH T.dflt m.toNat (i.toNat+j.toNat) i.toNat j.toNat l).1:Nat)
def U9{T:Ty}(m i j:Int)(l:List T.den):List T.den:=(dH T.dflt m.toNat (i.toNat+j.toNat) i.toNat j.toNat l).2
noncomputable def xN(e:TypeId)(T:Ty)(l:List T.den)(x:ag [.d i64,.d i64,.d i64,(aV T)]):Fr (List T.den×aa []):=
 let a:=x.1;let m:=x.2.1;let b:=x.2.2.1;let g:=x.2.2.2.1
 let i:=U8 m (I6.wrap (m-a)) (I6.wrap (b-m)) l
 let r:=U9 m (I6.wrap (m-a)) (I6.wrap (b-m)) l
 Jd (InvRot m (I6.wrap (m-a)) (I6.wrap (b-m)) l)
 (Jd (0<=I6.wrap (m-i))
  (Jd (0<=m)
   (Jd (I6.wrap (m-i)+i<=(r.length:Int))
    (Jd (m+i<=(r.length:Int))
     (Jv (((jL e T).f r (I6.wrap (m-i),m,i,(g.1,g.2),())).1,()))))))
def UB{T:Ty}(l:List T.den)(xs:ag (pb e T).ps)(i:l.length<=maxLen)(d:av ((pb e T).ok l xs)):av [((xN e T) l xs).ok]/\((xN e T) l xs).get=(pb e T).f l xs:=by
 obtain⟨a,m,b,g,rfl⟩:∃ (a m b:Int) (g:(aV T).den),xs=(a,m,b,g,()):=⟨xs.1,xs.2.1,xs.2.2.1,xs.2.2.2.1,rfl⟩;have c:(0:Int)<=a/\(a:Int)<m/\(m:Int)<b/\(b:Int)<=(List.length (α:=T.den) l:Int)/\(List.length (α:=T.den) l:Int)<=4611686018427387903:=d;obtain⟨q,s,t,u,j⟩:=c;have n:I6.wrap (m-a)=m-a:=IntWalk.i64_in _ (by omega);have o:I6.wrap (b-m)=b-m:=IntWalk.i64_in _ (by omega);have k:=K4 (m:=m.toNat) ((m-a).toNat+(b-m).toNat) (m-a).toNat (b-m).toNat l (by omega) (by omega) (ue9 _);dsimp only[xN,Fr.ok,Fr.get,Ty.den,PT.den,jL,U8,U9];rw[n,o];have h:pC T.dflt a.toNat m.toNat b.toNat l=e9 T.dflt (dH T.dflt m.toNat ((m-a).toNat+(b-m).toNat) (m-a).toNat (b-m).toNat l).1 (m.toNat-(dH T.dflt m.toNat ((m-a).toNat+(b-m).toNat) (m-a).toNat (b-m).toNat l).1) m.toNat (dH T.dflt m.toNat ((m-a).toNat+(b-m).toNat) (m-a).toNat (b-m).toNat l).2:=by
  unfold pC;rw[show b.toNat-a.toNat=(m-a).toNat+(b-m).toNat by omega,show m.toNat-a.toNat=(m-a).toNat by omega,show b.toNat-m.toNat=(b-m).toNat by omega]
 generalize dH T.dflt m.toNat ((m-a).toNat+(b-m).toNat) (m-a).toNat (b-m).toNat l=r at k h |-;have p:I6.wrap (m-(r.1:Int))=m-r.1:=IntWalk.i64_in _ (by omega);rw[p];refine⟨⟨⟨by omega,by omega,by omega,by omega,j⟩,by omega,by omega,by omega,by omega,uT⟩,?_⟩;show(e9 T.dflt (r.1:Int).toNat (m-r.1).toNat m.toNat r.2,())=(pC T.dflt a.toNat m.toNat b.toNat l,());rw[h,show(r.1:Int).toNat=r.1 by omega,show(m-(r.1:Int)).toNat=m.toNat-r.1 by omega]
end Go.Proofs.YtdokapnnagbehaaGreat
