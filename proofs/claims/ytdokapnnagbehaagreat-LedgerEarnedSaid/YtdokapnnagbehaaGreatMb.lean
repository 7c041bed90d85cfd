/-
  Parts of the proof, one behind the other.
-/
import Derived.Test.YtdokapnnagbehaaGreatMa
set_option linter.all false
set_option maxRecDepth 100000
set_option maxHeartbeats 4000000
open Option renaming some->U,none->V
open Bool renaming true->Z,false->Y
open Decidable renaming decide->J
open Go Go.RowKit
variable {T α σ ρ β:Type} {P:Program} {ad:Addr} {arr cs cur:Array Value} {f:FuncId} {x a y day:Int} {k:IntKind} {l:List Int} {xs vs news:List Value} {off i n b c d j B m len:Nat} {F F' K:Nat->Prop} {R g R':Nat->Value->Prop} {o:Oper} {p:Prop} {e ety t ty el:TypeId} {v u vx:Value} {w w' W' W:World}
namespace Go.Ab
open Go Go.RowKit
section
variable {P:Program} {B:Nat} {o:Oper} {a:Act} {w w':World} {F F':Nat->Prop} {γ γ':Nat->Value} {M m:aT} {R:Nat->Value->Prop}
def CB{t:Ty}{l:List t.den}(z:aA w F (.sl t) l (λ_ u=>u=v)):
  ∃ A c xs,v=.slice A l.length c/\l.length<=c/\(A=V->l=[])/\xs.length=l.length*t.size/\bU w F t l xs/\∀ ad,A=U ad->∀ (j:Nat) u,xs[j]?= U u->w.cell? (ad.add j)=U u:=by
 obtain⟨A,c,q,r,C,m⟩:=z;cases A with
 |none=>
  have s:l=[]:=by
   cases l with
   |nil=>rfl
   |cons x l=>
    obtain⟨ad,a,_⟩:=m 0 x rfl;cases a
  subst s;exact⟨V,c,[],q.symm,r,λ_=>rfl,by simp,λi x hi=>by simp at hi,λad a=>by cases a⟩
 |some ad=>
  refine⟨U ad,c,(List.range (l.length*t.size)).map λk=>(w.cell? (ad.add k)).getD undef,q.symm,r,(λh=>by cases h),by simp,λi x hi=>?_,λf a j u b=>?_⟩;obtain⟨f,a,_,n⟩:=m i x hi;cases a;refine n.mono (λ_ h=>h) (λ_ _=>rfl) λj u b B=>?_;have o:=(uak.1 hi).1;have:i*t.size+j<l.length*t.size:=by
   have:i*t.size+t.size<=l.length*t.size:=by rw[<- uew];exact ube _ o
   omega
  rw[uco,List.getElem?_range this];simp[B];cases a;rw[uco]at b;have e:j<l.length*t.size:=by
   rcases uep j (l.length*t.size)with h|h
   exact h;rw[ua4 (by simpa using h)]at b;simp at b
  rw[List.getElem?_range e]at b;simp at b;have d:0<t.size:=by
   rcases ub5 t.size with g|g
   rw[g]at e;omega;exact g
  have hi:=(Nat.div_lt_iff_lt_mul d).2 e;obtain⟨f,a,_,n⟩:=m (j/t.size) _ (uaq hi);cases a;obtain⟨y,p,_⟩:=aA.cell t n (j%t.size) (ufg _ d);rw[uev,Nat.div_add_mod]at p;rw[p]at b |-;simpa using b
def bU.append{t:Ty}{l k:List t.den}{b:List Value}(d:bU w F t l xs)(g:xs.length=l.length*t.size)(e:bU w F t k b):bU w F t (l++k) (xs++b):=by
 intro i x hi;rcases uep i l.length with h|h
 rw[uaj h]at hi;refine(d i x hi).mono (λ_ h=>h) (λ_ _=>rfl) λj u c a=>?_;have:i*t.size+t.size<=l.length*t.size:=by rw[<- uew];exact ube _ h
 rw[uaj (by omega)];exact a;rw[uae h]at hi;refine(e (i-l.length) x hi).mono (λ_ h=>h) (λ_ _=>rfl) λj u c a=>?_;have f:i*t.size=l.length*t.size+(i-l.length)*t.size:=by rw[<- ufb];congr 1;omega
 rw[uae (by omega)];rw[<- a];congr 1;omega
def Sz{c:AC}{t:Ty}{l:List t.den}(r:MemOK P B w F γ M)(d:∀ i y,m i=U y->M i=U y)(h:rp m c=U ⟨t,l⟩)(p:bc P w F (ap M γ) c v):
  ∃ A f xs,v=.slice A l.length f/\l.length<=f/\(A=V->l=[])/\xs.length=l.length*t.size/\bU w F t l xs/\∀ ad,A=U ad->∀ (j:Nat) u,xs[j]?= U u->w.cell? (ad.add j)=U u:=by
 unfold rp at h;split at h<;>try trivial
 cases h;exact CB p;cases h;obtain⟨A,_,s⟩:=p;exact CB s;rename_i id;split at h<;>try trivial
 rename_i ety z x a;split at h<;>try trivial
 rename_i k;cases h;have q:=ez (d _ _ a) (by simp) p;subst q;obtain⟨xs,b,_,e,_⟩:=gg.of (r.ob id _ (d _ _ a)) k;rcases b.2 with ⟨n,o⟩|⟨g,f,cur,n,_,_,o,_⟩
 exact⟨V,0,xs,by rw[n,o],by omega,λ_=>uab o,b.1,e,λad k=>by cases k⟩;refine⟨_,_,xs,n,o,(λh=>by cases h),b.1,e,λad k=>?_⟩;cases k;exact b.cells (by rw[n];rfl);rename_i z x a;cases h;have q:=ez (d _ _ a) (by simp) p;subst q;exact CB (r.ob id _ (d _ _ a))
def UT(t ty e:TypeId)(i:TypeInfo)(d:P.underlying t=U (.slice e))(hi:P.info? e=U i)(A:Option Addr)(n a:Nat)(b:n<=a)(c:Nat):
  (Builtin.append_ #[t,t] ty #[.slice A n a,.slice V 0 c]).run P w=.ok (.slice A n a) w:=by
 cases A<;>simp[Builtin.append_,ud5 d,sizeOf,typeInfo,hi,Builtin.lenOf,Builtin.firstCells,b,storeCells]
def qr(t ty e:TypeId)(i:TypeInfo)(z:Value)(size:Nat)(p:P.underlying t=U (.slice e))(hi:P.info? e=U i)(L:i.zero=U z)(d:i.size=size)(q:z.cells.size=size)(o:0<size)(s:Value)(n:Nat)(xs:List Value)(a:w.ownsRow B e size s n xs)(A:Option Addr)(k c:Nat)(news:List Value)(E:A=V->k=0)(r:news.length=k*size)(G:∀ ad,A=U ad->∀ (j:Nat) u,news[j]?= U u->w.cell? (ad.add j)=U u)(D:∀ u∈news,u.oneCell'=Z)(l:n+k<=maxLen)(b:(n+k)*i.bytes<=140737488355328)(F:B<=w.heap.size):
  ∃ f w',(Builtin.append_ #[t,t] ty #[s,.slice A k c]).run P w=.ok f w'/\w'.ownsRow B e size f (n+k) (xs++news)/\w.grownBy w' s.ownBlock/\(f.ownBlock=s.ownBlock\/f.ownBlock=U w.heap.size):=by
 cases A with
 |none=>
  have H:=E rfl;subst H;have K:=uab (by simpa using r);subst K;rcases a.2 with ⟨rfl,rfl⟩|⟨g,h,cur,rfl,_,_,m,_⟩
  exact⟨_,w,UT t ty e i p hi V 0 0 (ue9 _) c,by simpa using a,⟨rfl,rfl,rfl,ue9 _,λ_ _ _=>rfl⟩,.inl rfl⟩;exact⟨_,w,UT t ty e i p hi _ n h m c,by simpa using a,⟨rfl,rfl,rfl,ue9 _,λ_ _ _=>rfl⟩,.inl rfl⟩
 |some ad=>
  obtain⟨f,w',v,x,y,_,C⟩:=run_append_own_at w B t ty e i z size i.bytes p hi L d rfl q o s n xs a ad k c news r (G ad rfl) D l b F;exact⟨f,w',v,x,y,C⟩
def qav(t ty e:TypeId)(i:TypeInfo)(z:Value)(size:Nat)(E:P.underlying t=U (.slice e))(hi:P.info? e=U i)(F:i.zero=U z)(m:i.size=size)(y:z.cells.size=size)(S:Option Addr)(n:Nat)(xs:List Value)(L:S=V->n=0)(f:xs.length=n*size)(x:∀ ad,S=U ad->∀ (j:Nat) u,xs[j]?= U u->w.cell? (ad.add j)=U u)(A:Option Addr)(k c:Nat)(news:List Value)(M:0<k)(H:A=V->k=0)(p:news.length=k*size)(D:∀ ad,A=U ad->∀ (j:Nat) u,news[j]?= U u->w.cell? (ad.add j)=U u)(o:n+k<=maxLen)(d:(n+k)*i.bytes<=140737488355328)(K:B<=w.heap.size):
  ∃ C w',(Builtin.append_ #[t,t] ty #[.slice S n n,.slice A k c]).run P w=.ok C w'/\w'.ownsRow B e size C (n+k) (xs++news)/\w.grownBy w' V/\C.ownBlock=U w.heap.size:=by
 subst m;obtain⟨ad,rfl⟩:∃ ad,A=U ad:=by
  cases A with
  |none=>have:=H rfl;omega
  |some ad=>exact⟨ad,rfl⟩
 have g:(xs++news).length=(n+k)*i.size:=by rw[ub6,f,p,ufb]
 have s:=grownCap_ge w (n+k) n e;have r:=ub7 w (n+k) n e o;have h:((n+k:Nat):Int)<=9223372036854775807:=by simp only[maxLen]at o;omega
 have a:(w.drew.alloc (.cells (xs.toArray++news.toArray++Builtin.zeroCells z.cells (grownCap w (n+k) n e-(n+k))) e)).ownsRow B e i.size (.slice (U ⟨w.heap.size,0,V⟩) (n+k) (grownCap w (n+k) n e)) (n+k) (xs++news):=by
  refine⟨g,.inr ⟨w.heap.size,_,_,rfl,K,ud7 w.drew _,s,r,?_,?_⟩⟩;simp only[ucp,ucq,size_zeroCells,y,f,p,<- ufb];congr 1;omega;simp;rw[<- ucr,<- g];exact List.take_left
 have l:w.grownBy (w.drew.alloc (.cells (xs.toArray++news.toArray++Builtin.zeroCells z.cells (grownCap w (n+k) n e-(n+k))) e)) none:=⟨rfl,rfl,rfl,by simp,λb q _=>heap_alloc_old w.drew _ b q⟩;cases S with
 |none=>
  have N:=L rfl;subst N;have O:=uab (by simpa using f);subst O;have v:=run_append_nil w t ty e i z E hi F ad k c news p (D ad rfl) M (by simpa using h) (by have q:=d;simp at q;omega);simp at a l |-;exact⟨_,_,v,a,l,rfl⟩
 |some G=>
  have v:=run_append_grow w t ty e i z E hi F G n n xs f (x G rfl) ad k c news p (D ad rfl) (by omega) h (growslice_fits (by omega) d);exact⟨_,_,v,a,l,rfl⟩
def kT{size:Nat}{s:Value}(h:w.ownsRow B t size s n xs):s.oneCell'=true:=by
 rcases h.2 with ⟨rfl,_⟩|⟨g,a,cur,rfl,_⟩<;>rfl
def qax{s x:AV}{e:Eff}{vs:Value}(hm:MemOK P B w F γ M)(W:∀ b,F b->b<w.heap.size)(T:B<=w.heap.size)(f:∀ i y,m i=U y->M i=U y)(hd:m d=V->M d=V)(h:Fv P d t s x m=U e)(Q:av e.need)(hs:aE P w F (ap M γ) s vs)(hx:aE P w F (ap M γ) x vx):
  ∃ u w' γ',(Builtin.append_ #[t,t] ty #[vs,vx]).run P w=.ok u w'/\Step B w F γ M w' F γ' (ax M e.wr)/\MemOK P B w' F γ' (ax M e.wr)/\aE P w' F (ap (ax M e.wr) γ') e.v u:=by
 unfold Fv at h;split at h<;>try trivial
 rename_i el ht;split at h<;>try trivial
 rename_i i tt hi htt hmd;have L:=hd hmd;split at h<;>try trivial
 rename_i hsz;obtain⟨p,q,G,H⟩:=hsz;obtain⟨z,hz,R⟩:∃ z,i.zero=U z/\z.cells.size=tt.size:=by
  cases hz:i.zero with
  |none=>simp[hz]at H
  |some z=>exact⟨z,rfl,by simpa[hz]using H⟩
 split at h<;>try trivial
 rename_i new c;obtain⟨A,k,news,hvx,hlc,hA,r,C,a⟩:∃ A k news,vx=.slice A new.length k/\new.length<=k/\(A=V->new=[])/\news.length=new.length*tt.size/\bU w F tt new news/\∀ ad,A=U ad->∀ (j:Nat) u,news[j]?= U u->w.cell? (ad.add j)=U u:=by
  split at c<;>try trivial
  cases c;obtain⟨_,rfl⟩:=hx;exact⟨V,0,[],rfl,ue9 _,λ_=>rfl,by simp,λi x hi=>by simp at hi,λad he=>by cases he⟩;split at c<;>try trivial
  rename_i u l hl;split at c<;>try trivial
  rename_i hu;subst hu;cases c;exact Sz hm f hl hx.2
 subst hvx;have K:A=V->new.length=0:=λh=>by rw[hA h];rfl
 have E:=yQ C r;split at h<;>try trivial
 cases h;obtain⟨_,rfl⟩:=hs;obtain⟨v',w',e1,o,D,e4⟩:=qr t ty el i z tt.size ht hi hz q R G (.slice V 0 0) 0 [] (ucs w B el tt.size) A new.length k news K r a E (by have:=Q.1;omega) (by have:=Q.2;simpa using this) T;rw[uex,udm]at o;obtain⟨s1,s2⟩:=uN hm W T L D o (λg hg=>by rcases e4 with h|h<;>rw[h]at hg<;>simp[Value.ownBlock]at hg;omega) (C.mono (λ_ h=>h) (λb n=>D.block b (W b n) (by simp[Value.ownBlock]))) p;exact⟨v',w',_,e1,s1,s2,lP (kT o)⟩
 rename_i id;split at h<;>try trivial
 rename_i e' u l O;split at h<;>try trivial
 rename_i hu;subst hu;split at h<;>try trivial
 rename_i he';obtain⟨rfl,_⟩:=he';cases h;have N:cA (rfl:u=u) l=l:=rfl;have hv:=ez (f _ _ O) (by simp) hs.2;subst hv;obtain⟨xs,q1,q2,q3,q4⟩:=gg.of (hm.ob id _ (f _ _ O)) p;obtain⟨v',w',e1,o,D,e4⟩:=qr t ty e' i z u.size ht hi hz q R G (γ id) l.length xs q1 A new.length k news K r a E Q.1 Q.2 T;have hFb:=λb n=>D.block b (W b n) (λhe=>q2 b he.symm n);rw[<- ub6]at o;obtain⟨s1,s2⟩:=CJ hm W T (f _ _ O) L D o (e4.elim .inl (λh=>.inr (.inl h))) ((q3.append q1.1 C).mono (λ_ h=>h) hFb) p p;exact⟨v',w',_,e1,s1,s2,lP (kT o)⟩
 rename_i u l;split at h<;>try trivial
 rename_i hu;subst hu;cases h;have N:cA (rfl:u=u) l=l:=rfl;obtain⟨_,S,hvs,hrs⟩:=hs;obtain⟨S',c',xs,hv,_,hS,hxl,hxr,hxc⟩:=CB hrs;rw[hvs]at hv;cases hv;subst hvs;obtain⟨v',w',e1,o,D,e4⟩:=qav t ty el i z u.size ht hi hz q R S l.length xs (λh=>by rw[hS h];rfl) hxl hxc A new.length k news Q.1 K r a Q.2.1 Q.2.2 T;rw[<- ub6]at o;obtain⟨s1,s2⟩:=uN hm W T L D o (λg hg=>by rw[e4]at hg;simp at hg;omega) ((hxr.append hxl C).mono (λ_ h=>h) (λb n=>D.block b (W b n) (by simp))) p;exact⟨v',w',_,e1,s1,s2,lP (kT o)⟩
end
section
variable {P:Program} {B:Nat} {o:Oper} {a:Act} {w w':World} {F F':Nat->Prop} {γ γ':Nat->Value} {M m:aT} {R:Nat->Value->Prop}
def cF(arr:Array Value)(off:Nat)(vs:List Value):Array Value:=(arr.toList.take off++vs++arr.toList.drop (off+vs.length)).toArray
def yy(h:off+vs.length<=arr.size):(cF arr off vs).size=arr.size:=by
 simp[cF];omega
def yx(h:off+vs.length<=arr.size)(a:j<vs.length):(cF arr off vs)[off+j]?= vs[j]? := by
 simp only[cF,List.getElem?_toArray];rw[uaj (by simp;omega),uae (by simp;omega)];congr 1;simp;omega
def rC(h:off+vs.length<=arr.size)(a:j<off\/off+vs.length<=j):(cF arr off vs)[j]?= arr[j]? := by
 simp only[cF,List.getElem?_toArray];rcases a with a|a
 rw[uaj (by simp;omega),uaj (by simp;omega),ub2,ufv a];simp;rw[uae (by simp;omega),ub1];simp only[ub6,uc5,ubu];rw[show off+vs.length+(j-(min off arr.size+vs.length))=j from by omega];simp
def D8{g:TypeInfo}(c:w.heap[b]?= U (.cells arr ty (0,0)))(hi:P.info? t=U g)(e:v.cells.size=P.cellsOf t)(d:off+v.cells.size<=arr.size)(a:∀ u∈v.cells,u.oneCell'=Z):(Instr.storeAt t (.pointer (U ⟨b,off,V⟩)) v).run P w=.ok () (w.setRow b (cF arr off v.cells.toList)):=by
 have:=run_storeCells_at (P:=P) b off ty v.cells.toList 0 arr w c (by simpa using d) (λu f=>a u (ubh.1 f));simp[Instr.storeAt,Instr.sureAddr,storeVar,gw hi,e,this,cF]
def Le{m':aT}(f:∀ b,F b->b<w.heap.size)(a:¬ F b)(g:B<=b)(d:∀ i v,ap M γ i v->ap m' γ i v):Step B w F γ M (w.setRow b arr) F γ m':=
 ⟨λ_ h=>h,λc h=>uez w b c _ (λe=>a (e ▸ h)),d,λc h=>uez w b c _ (by omega),rfl,rfl,rfl,by simp,λc h=>by have:=f c h;simpa using this,λc h=>.inl h⟩
def pJ{id:Nat}{cs cs':List AC}(p:MemOK P B w F γ M)(m:∀ b,F b->b<w.heap.size)(k:M id=U (.box e cs))(d:γ id=.pointer (U ⟨b,0,V⟩))(n:w.heap[b]?= U (.cells arr e (0,0)))(i:¬ F b)(g:B<=b)(o:off+vs.length<=arr.size)(r:arr.size=cs'.length)(q:aN P w F (ap M γ) cs' (λj u=>(cF arr off vs)[j]?= U u)):
  Step B w F γ M (w.setRow b (cF arr off vs)) F γ (upd M id (.box e cs'))/\MemOK P B (w.setRow b (cF arr off vs)) F γ (upd M id (.box e cs')):=by
 have a:Step B w F γ M (w.setRow b (cF arr off vs)) F γ (upd M id (.box e cs')):=Le m i g (nx k (by simp));refine⟨a,p.change k (by simp) a.hF a.hw (λc h=>h) (λc _ f=>⟨uez w b c _ (λl=>f ⟨_,d,l.symm⟩),λh=>h⟩) ?_⟩;exact⟨b,_,d,ufc w b arr _ e (0,0) n,i,g,by rw[yy o];exact r,a.repCL q⟩
def qw6{id:Nat}{a:Ob}(b:M id=U a)(c:a ≠ .gone)(h:ap M γ id v):v=γ id:=by
 unfold ap at h;cases a<;>simp_all
def UN{id:Nat}:{cs xs:List AC} -> {u:List (Nat×Ob)}->jr m cs=U (xs,u)->(cs.flatMap lH).all (· != id)=Z->∀ M:aT,ax M u id=M id
 |[],xs,u,h,_,M=>by
  obtain⟨rfl,rfl⟩:=h;rfl
 |c::r,xs,u,h,e,M=>by
  simp only[jr]at h;split at h;rename_i x f y g a d;cases h;have b:(lH c).all (· != id)=Z/\(r.flatMap lH).all (· != id)=true:=by
   simpa[udn]using e
  rw[gc,UN d b.2];unfold me at a;split at a;rename_i i;have hi:i≠id:=by
   have:=b.1;simpa[lH]using this
  split at a<;>try trivial
  simp at a;obtain⟨_,_,rfl⟩:=a;exact fa _ _ (Ne.symm hi);simp at a;obtain⟨_,rfl⟩:=a;rfl;simp at a;obtain⟨_,rfl⟩:=a;rfl;cases h
def zax{x v:AV}{e:Eff}{z:Value}(hm:MemOK P B w F γ M)(hb:∀ b,F b->b<w.heap.size)(o:∀ i y,m i=U y->M i=U y)(h:Lh P t x v m=U e)(hn:av e.need)(hx:aE P w F (ap M γ) x vx)(hv:aE P w F (ap M γ) v z):
  e.v=.dead/\∃ w' F',(Instr.storeAt t vx z).run P w=.ok () w'/\Step B w F γ M w' F' γ (ax M e.wr)/\MemOK P B w' F' γ (ax M e.wr):=by
 unfold Lh at h;split at h<;>try trivial
 rename_i new hnew;obtain⟨c1,c2,c3⟩:=o6 hnew hv;split at h<;>try trivial
 rename_i hi;obtain⟨ti,hti⟩:=uar.1 hi.1;have hsz:z.cells.size=P.cellsOf t:=by omega
 split at h<;>try trivial
 rename_i id off;split at h<;>try trivial
 rename_i ety cs p;split at h<;>try trivial
 rename_i cs' a;cases h;obtain⟨b,arr,O,rfl,e3,e4,e5,e6,e7⟩:=lw hm (o _ _ p) hx.2;have N:off+z.cells.toList.length<=arr.size:=by
  unfold nw at a;split at a;simp;omega;cases a
 obtain⟨p1,p2⟩:=Dt (g':=λj u=>(cF arr off z.cells.toList)[j]?= U u) a e7 (c2.turn λj u E s=>by
   rw[yx N (by simp;omega)];simpa using s) (λj u E s=>by
   rw[rC N (by simp;omega)];exact s)
 obtain⟨s1,s2⟩:=pJ hm hb (o _ _ p) O e3 e4 e5 N (by omega) p2;exact⟨rfl,_,F,D8 e3 hti hsz (by simpa using N) c3,s1,s2⟩
 rename_i id sz i off;split at h<;>try trivial
 rename_i ety tt l new' u p hrs;split at h<;>try trivial
 rename_i T;obtain⟨G,hsz',hno⟩:=T;split at h<;>try trivial
 rename_i row a;split at h<;>try trivial
 rename_i y hdec;cases h;have hil:i<l.length:=hn;obtain⟨F1,s1,m1,t1,l1,r1⟩:=yR hm hb (cX.of o) hrs c2;have Q:ax M u id=U (.arr ety tt l):=by rw[UN hrs hno];exact o _ _ p
 obtain⟨b,c,arr,O,e2,e3,e4,e5,e6⟩:=NI m1 Q G hil;obtain⟨A,n0,c0,f1,rfl⟩:=hx;have f2:=qw6 (o _ _ p) (by simp) f1;rw[O]at f2;obtain⟨rfl,rfl,rfl⟩:=f2;subst hsz';have hlr:off+new'.length<=tt.size:=by
  unfold nw at a;split at a;rename_i hle;rw[fl]at hle;exact hle;cases a
 have hnl:z.cells.toList.length=new'.length:=by rw[l1];simpa using c1
 have f:i*tt.size+off+z.cells.toList.length<=arr.size:=by
  rw[uew]at e5;omega
 obtain⟨p1,p2⟩:=Dt (g':=λj u=>(cF arr (i*tt.size+off) z.cells.toList)[i*tt.size+j]?= U u) a e6
  (r1.turn λj u E s=>by rw[<- ueh,yx f (by omega)];simpa using s)
  (λj u E s=>by rw[rC f (by omega)];exact s)
 obtain⟨q1,_⟩:=aA.dec tt hdec p2;have K:Step B w F1 γ (ax M u) (w.setRow b (cF arr (i*tt.size+off) z.cells.toList)) F1 γ (upd (ax M u) id (.arr ety tt (l.set i y))):=Le s1.bd e3 e4 (nx Q (by simp));have hmm:MemOK P B (w.setRow b (cF arr (i*tt.size+off) z.cells.toList)) F1 γ (upd (ax M u) id (.arr ety tt (l.set i y))):=by
  have hnm:∀ b',γ id ≠ .map (U b'):=λb' he=>by rw[O]at he;cases he
  refine m1.change Q (by simp) K.hF K.hw (λc h=>(lE G hnm).2 ((lE G hnm).1 h)) (λc _ hne=>⟨uez w b c _ (λe'=>hne (.inl (by rw[O];simp[Value.ownBlock,e']))),λh=>h⟩) ?_;obtain⟨xs,hown,hnF,H,hone⟩:=gg.of (m1.ob id _ Q) G;obtain⟨hxl,hn'|⟨g,cap,cur,hv',hbg,hg,hnc,hcm,R,ht⟩⟩:=hown;omega;rw[O]at hv';obtain⟨rfl,rfl⟩:=hv';rw[e2]at hg;simp at hg;subst hg;have C:bU w F1 tt (l.set i y) ((cF arr (i*tt.size+off) z.cells.toList).toList.take (l.length*tt.size)):=by
   intro k x hk;have hkl:k<l.length:=by simpa using (uak.1 hk).1
   have hkb:k*tt.size+tt.size<=l.length*tt.size:=by rw[<- uew];exact ube _ hkl
   rcases uct k i with h1|h1|h1
   rw[ubi (by omega)]at hk;have hki:k*tt.size+tt.size<=i*tt.size:=by rw[<- uew];exact ube _ h1
   refine(H k x hk).mono (λ_ h=>h) (λ_ _=>rfl) λj u E s=>?_;rw[ub2,ufv (by omega),ua5,rC f (by omega)];rw[<- ht,ub2,ufv (by omega)]at s;simpa using s;subst h1;rw[ua0 hkl]at hk;cases hk;refine q1.mono (λ_ h=>h) (λ_ _=>rfl) λj u E s=>?_;rw[ub2,ufv (by omega),ua5];exact s;rw[ubi (by omega)]at hk;have hki:i*tt.size+tt.size<=k*tt.size:=by rw[<- uew];exact ube _ h1
   refine(H k x hk).mono (λ_ h=>h) (λ_ _=>rfl) λj u E s=>?_;rw[ub2,ufv (by omega),ua5,rC f (by omega)];rw[<- ht,ub2,ufv (by omega)]at s;simpa using s
  have hlc:l.length*tt.size<=arr.size:=by rw[R];exact ube _ hnc
  have hxl':((cF arr (i*tt.size+off) z.cells.toList).toList.take (l.length*tt.size)).length=(l.set i y).length*tt.size:=by
   have h8:(cF arr (i*tt.size+off) z.cells.toList).toList.length=arr.size:=by simpa using yy f
   rw[uc5,h8,udo];omega
  refine .inl ⟨G,_,⟨hxl',.inr ⟨b,_,_,by rw[O,udo],hbg,ufc w b arr _ ety (0,0) e2,by rw[udo];exact hnc,hcm,by rw[yy f];exact R,by rw[udo]⟩⟩,hnF,C.mono K.hF K.hw,yQ C hxl'⟩
 have hrun:=D8 e2 hti hsz (by simpa using f) c3;refine⟨rfl,_,F1,by rw[i8,uex];exact hrun,?_,?_⟩;rw[gc];exact s1.trans K;rw[gc];exact hmm
 rename_i id off n i;split at h<;>try trivial
 rename_i ety cs k y p;split at h<;>try trivial
 rename_i bf D;split at h<;>try trivial
 rename_i L hns;split at h<;>try trivial
 rename_i cs' a;cases h;obtain⟨ad,a1,a2,a3,rfl⟩:=hx;obtain⟨b,arr,O,e2,e3,e4,e5,e6,e7⟩:=lw hm (o _ _ p) a1;simp at e2;subst e2;obtain⟨u,d,hu2⟩:∃ u,z.cells = #[u]/\(u=.int k y/\inR k y):=by
  obtain⟨⟨u,g1,_,g3⟩,_⟩:=c2;have:z.cells.size=1:=by simpa using c1
  refine⟨u,?_,g3⟩;apply ufn;simpa using this;intro j hj1 hj2;have:j=0:=by simp at hj2;exact hj2
  subst this;have:=(uaf.1 g1).2;simpa using this
 obtain⟨hu2,hy⟩:=hu2;subst hu2;have hseq:=Cu hns;obtain⟨g1,g2⟩:=uc D e7;have hsb:off+n<=cs.length:=by
  unfold ig at D;split at D;assumption;cases D
 have N:off+i.toNat+z.cells.toList.length<=arr.size:=by rw[d];simp;omega
 have hnsl:L.length=n:=by rw[hseq]at g1;simpa using g1
 have hset:∀ (L:List Int) (S:Nat),(pI L S i y).length=L.length/\∀ j,(pI L S i y)[j]?= if i=((S+j:Nat):Int)/\j<L.length then U y else L[j]? := by
  intro L
  induction L with
  |nil=>intro S;exact⟨rfl,λj=>by simp[pI]⟩
  |cons q r ih=>
   intro S;obtain⟨i1,i2⟩:=ih (S+1);refine⟨by simp[pI,i1],λj=>?_⟩;cases j with
   |zero=>
    simp only[pI,uey,uc9];by_cases W:i=(S:Int);rw[ufv ⟨W,by omega⟩];simp[W];rw[ufw (by omega)];have:(i==(S:Int))=false:=by simpa using W
    simp[this]
   |succ j=>
    simp only[pI,List.getElem?_cons_succ,uc9];rw[i2];by_cases W:i=((S+1+j:Nat):Int)/\j<r.length;rw[ufv W,ufv ⟨by rw[W.1];congr 1;omega,by omega⟩];rw[ufw W,ufw (λhh=>W ⟨by rw[hh.1];congr 1;omega,by omega⟩)]
 obtain⟨z1,z2⟩:=hset L 0;obtain⟨p1,p2⟩:=Dt (g':=λj u=>(cF arr (off+i.toNat) z.cells.toList)[j]?= U u) a e7
  (ki _ λj c T=>by
   rw[uco,z2]at T;by_cases E:i=((0+j:Nat):Int)/\j<L.length;rw[ufv E]at T;simp at T;subst T;refine⟨.int k y,?_,rfl,rfl,hy⟩;have hij:i.toNat=j:=by omega
   have:=yx N (j:=0) (by rw[d];simp);rw[hij,uey]at this;rw[hij,this,d];rfl;rw[ufw E]at T;have R:bf[j]?= U c:=by rw[hseq,uco];exact T
   obtain⟨u,d1,d2⟩:=g2.at_ R;refine⟨u,?_,d2⟩;rw[rC N (by rw[d];simp;omega)];exact d1)
  (λj u E s=>by
   rw[rC N (by rw[d];simp at E |-;omega)];exact s)
 obtain⟨s1,s2⟩:=pJ hm hb (o _ _ p) O e3 e4 e5 N (by omega) p2;exact⟨rfl,_,F,by rw[i8];exact D8 e3 hti hsz (by simpa using N) c3,s1,s2⟩
end
section
variable {P:Program} {B:Nat} {o:Oper} {a:Act} {w w':World} {F F':Nat->Prop} {γ γ':Nat->Value} {M m:aT} {R:Nat->Value->Prop} {Γ:Gm}
def qtp{n c:Int}{kn kc:IntKind}{e:Eff}(W:MemOK P B w F γ M)(O:∀ b,F b->b<w.heap.size)(N:B<=w.heap.size)(Q:m d=V->M d=V)(h:J4 P d t n c m=U e)(hn:av e.need):
  ∃ u w' γ',(Instr.makeSlice t (.int kn n) (.int kc c)).run P w=.ok u w'/\Step B w F γ M w' F γ' (ax M e.wr)/\MemOK P B w' F γ' (ax M e.wr)/\aE P w' F (ap (ax M e.wr) γ') e.v u:=by
 unfold J4 at h;split at h<;>try trivial
 rename_i el ht;split at h<;>try trivial
 rename_i i tt hi htt H;split at h<;>try trivial
 rename_i z hz;split at h<;>try trivial
 rename_i cs D;split at h<;>try trivial
 rename_i x q;split at h<;>try trivial
 rename_i L;obtain⟨l,p,K,hs3⟩:=L;cases h;obtain⟨n1,n2,n3,n4⟩:=hn;obtain⟨z1,z2,_⟩:=o6 D (tf (P:=P) (R:=ap M γ) z);obtain⟨r1,_⟩:=aA.dec tt q z2;have hr:=run_make w t el i z ht hi hz kn kc n c n1 n2 (by rw[ue0];omega) (by simp only[maxLen]at n3;omega);have C:c.toNat<=maxLen:=by omega
 have f:∀ k,k<c.toNat*i.size->(madeCells z.cells (c.toNat*i.size))[k]?= z.cells[k%z.cells.size]? := by
  intro k s;have r:0<z.cells.size:=by omega
  have l:=ufg k r;have E:z.cells[k%z.cells.size]! = z.cells[k%z.cells.size]:=by simp[l]
  simp[madeCells,s,E]
 have o:bU (w.alloc (.cells (madeCells z.cells (c.toNat*i.size)) el)) F tt (List.replicate n.toNat x) ((madeCells z.cells (c.toNat*i.size)).toList.take (n.toNat*tt.size)):=by
  intro k y s;have G:k<n.toNat:=by simpa using (uak.1 s).1
  have hy:y=x:=by
   have:=(uak.1 s).2;simpa using this.symm
  subst hy;have T:k*tt.size+tt.size<=n.toNat*tt.size:=by rw[<- uew];exact ube _ G
  have hnc:n.toNat*tt.size<=c.toNat*i.size:=by rw[p];exact ube _ (by omega)
  refine r1.mono (λ_ h=>h) (λb A=>udb _ _ _ (O b A)) λj u S hu=>?_;rw[ub2,ufv (by omega),ua5,f _ (by omega),K];rw[show(k*tt.size+j)%tt.size=j from by rw[uev,Nat.mul_add_mod];exact Nat.mod_eq_of_lt S];exact hu
 have a:(List.replicate n.toNat x).length=n.toNat:=by simp
 obtain⟨s1,s2⟩:=uN W O N (Q H)
  (ubv w _ V)
  ⟨by
    rw[uc5,ubu,size_madeCells,a];have:n.toNat*tt.size<=c.toNat*i.size:=by rw[p];exact ube _ (by omega)
    omega,
   .inr ⟨w.heap.size,c.toNat,_,by rw[a],N,ud7 w _,by rw[a];omega,C,by rw[size_madeCells,p],by rw[a]⟩⟩
  (λg E=>by simp[Value.ownBlock]at E;omega) o l
 exact⟨_,_,_,hr,s1,s2,lP rfl⟩
def Qt{sz:Nat}{t:Ty}(n:t.size=sz):{vs:List (Nat×AV)} -> {ps:List (Nat×Value)} -> {l:List t.den} -> {k:Nat} -> {arr:Array Value}->n9 t k vs=U l->ps.length=vs.length ->
  (∀ (q i:Nat) (x:AV) (v:Nat×Value),vs[q]?= U (i,x)->ps[q]?= U v->v.1=i/\aE P w F R x v.2)->(k+vs.length)*sz<=arr.size ->
  l.length=vs.length/\∃ a,Instr.fill (λi=>U (i*sz,sz)) arr ps=U a/\a.size=arr.size/\(∀ j,j<k*sz->a[j]?= arr[j]?) /\
   ∀ (i:Nat) (x:t.den),l[i]?= U x->aA w F t x (λj u=>a[(k+i)*sz+j]?= U u)
 |[],[],l,k,arr,h,_,_,_=>by
  simp only[n9,ucl]at h;subst h;exact⟨rfl,arr,rfl,rfl,λ_ _=>rfl,λi x hi=>by simp at hi⟩
 |(i,x)::r,(Q,v)::ps,l,k,arr,h,b,A,e=>by
  obtain⟨rfl,B⟩:=A 0 i x (Q,v) rfl rfl;simp only at B;simp only[n9]at h;split at h<;>try trivial
  rename_i f;split at h<;>try trivial
  rename_i y l' O g;cases h;have c:=qP O B;obtain⟨S,T,C⟩:=c;have L:k*sz+sz<=arr.size:=by
   have d:(k+1)*sz<=(k+(r.length+1))*sz:=ube _ (by omega);rw[uew]at d;simp at e;omega
  obtain⟨o,p⟩:=Ij v.cells.toList (k*sz) 0 arr;have W:v.cells.zipIdx.foldl (λcs (x:Value×Nat)=>cs.setIfInBounds (k*sz+x.2) x.1) arr=(v.cells.toList.zipIdx 0).foldl (λcs (x:Value×Nat)=>cs.setIfInBounds (k*sz+x.2) x.1) arr:=by
   rw[<- Array.foldl_toList,Array.toList_zipIdx]
  obtain⟨D,a,E,G,s,H⟩:=Qt n g (by simpa using b)
   (λq i x v d K=>A (q+1) i x v (by simpa using d) (by simpa using K)) (by rw[o];simp at e;rw[show k+1+r.length=k+(r.length+1) from by omega];exact e)
  refine⟨by simp[D],a,?_,by rw[G,o],λj M=>?_,λq z m=>?_⟩;subst f;simp only[Instr.fill];rw[ufw (by simp;omega),<- E];congr 1;rw[s j (by rw[uew];omega),p,ufw (by omega)];cases q with
  |zero=>
   simp at m;subst m;refine C.mono (λ_ h=>h) (λ_ _=>rfl) λj u M N=>?_;rw[uey,s _ (by rw[uew];omega),p,ufv (by simp;omega)];simpa using N
  |succ q=>
   have:=H q z (by simpa using m);rw[show k+1+q=k+(q+1) from by omega]at this;exact this
 |[],_::_,_,_,_,_,b,_,_=>by simp at b
 |_::_,[],_,_,_,_,b,_,_=>by simp at b
def qbo{i:TypeInfo}{z:Value}{tt:Ty}{vs:List (Nat×AV)}{ps:Array (Nat×Value)}{l:List tt.den}(hm:MemOK P B w F γ M)(hb:∀ b,F b->b<w.heap.size)(W:B<=w.heap.size)(hd:M d=V)(ht:P.underlying t=U (.slice el))(hi:P.info? el=U i)(hz:i.zero=U z)(G:i.size=tt.size)(hzs:z.cells.size=tt.size)(hpos:0<tt.size)(hbig:n*i.size<=16777216)(h:n9 tt 0 vs=U l)(E:l.length=n)(Q:ps.size=vs.length)(hp:∀ (q i:Nat) (x:AV) (v:Nat×Value),vs[q]?= U (i,x)->ps[q]?= U v->v.1=i/\aE P w F (ap M γ) x v.2)(N:el<cj):
  ∃ u w' γ',(Instr.buildSlice t n ps).run P w=.ok u w'/\Step B w F γ M w' F γ' (upd M d (.arr el tt l))/\MemOK P B w' F γ' (upd M d (.arr el tt l))/\aE P w' F (ap (upd M d (.arr el tt l)) γ') (.c (.own d)) u:=by
 have m:vs.length=n:=by
  have:∀ (vs:List (Nat×AV)) (k:Nat) (l:List tt.den),n9 tt k vs=U l->l.length=vs.length:=by
   intro vs
   induction vs with
   |nil=>intro k l h;simp only[n9,ucl]at h;subst h;rfl
   |cons x r ih=>
    intro k l h;simp only[n9]at h;split at h<;>try trivial
    split at h<;>try trivial
    rename_i H;cases h;simp[ih _ _ H]
  rw[<- this vs 0 l h,E]
 have O:n<=maxLen:=by
  have:n*1<=n*i.size:=Nat.mul_le_mul_left _ (by omega);simp only[maxLen];omega
 have key:∀ e:Array Value,e.size=n*i.size->∃ a,Instr.fill (λj=>U (j*i.size,i.size)) e ps.toList=U a/\a.size=n*i.size/\∀ (k:Nat) (x:tt.den),l[k]?= U x->aA w F tt x (λj u=>a[k*i.size+j]?= U u):=by
  intro e T;obtain⟨_,a,g2,g3,_,g5⟩:=Qt G.symm (ps:=ps.toList) h (by simpa using Q) (λq i x v h1 H=>hp q i x v h1 (by simpa using H)) (by rw[T,uex,m];exact ue9 _);exact⟨a,g2,by rw[g3,T],λk x D=>by have:=g5 k x D;rw[uex]at this;exact this⟩
 have R:(zeroValue el).run P w=.ok z w:=by simp[zeroValue,typeInfo,hi,hz]
 have A:∃ a,a.size=n*i.size/\(∀ (k:Nat) (x:tt.den),l[k]?= U x->aA w F tt x (λj u=>a[k*i.size+j]?= U u)) /\
   (Instr.buildSlice t n ps).run P w=.ok (.slice (U ⟨w.heap.size,0,V⟩) n n) (w.alloc (.cells a el)):=by
  have y:P.cellsOf el=i.size:=by simp[Program.cellsOf,hi]
  have f:¬ (16777216<n*i.size):=by omega
  by_cases o:n*i.size=0;obtain⟨a,S,s,C⟩:=key ((Array.range 0).map λ_=>default) (by simp[o]);refine⟨a,s,C,?_⟩;simp only[Instr.buildSlice,ues,ud5 ht,ucm,gw hi,y];simp[o,S,newRow,Sem.run];obtain⟨a,S,s,C⟩:=key ((Array.range (n*i.size)).map (λj=>z.cells[j%z.cells.size]!)) (by simp);refine⟨a,s,C,?_⟩;simp only[Instr.buildSlice,ues,ud5 ht,ucm,gw hi,y];simp[o,f,R,S,newRow,newObj,Sem.run]
 obtain⟨a,s,C,hr⟩:=A;have p:bU (w.alloc (.cells a el)) F tt l (a.toList.take (l.length*tt.size)):=by
  intro k x D;have L:=(uak.1 D).1;have hkb:k*tt.size+tt.size<=l.length*tt.size:=by rw[<- uew];exact ube _ L
  refine(C k x D).mono (λ_ h=>h) (λb K=>udb _ _ _ (hb b K)) λj u hj hu=>?_;rw[ub2,ufv (by omega),ua5,<- G];exact hu
 obtain⟨s1,s2⟩:=uN hm hb W hd (ubv w _ V)
  ⟨by
    have h9:a.toList.length=n*tt.size:=by rw[<- G];simpa using s
    rw[uc5,h9,E];exact Nat.min_self _,.inr ⟨w.heap.size,n,_,by rw[E],W,ud7 w _,by rw[E];exact ue9 _,O,by rw[s,G],rfl⟩⟩
  (λg hg=>by simp[Value.ownBlock]at hg;omega) p N
 exact⟨_,_,_,hr,s1,s2,lP rfl⟩
def Vl{t:Ty}{l:List t.den}{A:Option Addr}{lo hi mx:Nat}(m:aA w F (.sl t) l (λ_ u=>u=.slice A l.length c))(s:lo<=hi)(v:hi<=l.length)(y:hi<=mx)(z:mx<=c):
  aA w F (.sl t) ((l.drop lo).take (hi-lo)) (λ_ u=>u=.slice (if mx=lo then A else A.map (·.add (lo*t.size))) (hi-lo) (mx-lo)):=by
 obtain⟨o,p,e,q,r,f⟩:=m;obtain⟨rfl,_,rfl⟩:=e;have a:((l.drop lo).take (hi-lo)).length=hi-lo:=by simp;omega
 refine⟨_,mx-lo,by rw[a],by rw[a];omega,by omega,λi x b=>?_⟩;have d:i<hi-lo:=by rw[<- a];exact(uak.1 b).1
 rw[ub2,ufv d,ub1]at b;obtain⟨ad,rfl,g,k⟩:=f _ _ b;refine⟨ad.add (lo*t.size),by rw[ufw (by omega)];rfl,by rw[qp];exact g,k.mono (λ_ h=>h) (λ_ _=>rfl) λj u B n=>?_⟩;rw[m9,<- n,ufb,ueh]
def kY{n:Int}{y:Nat}{a:BoundsCode}(b:0<=n)(c:n<=y):(Instr.sliceBound (.int k n) y a).run P w=.ok n.toNat w:=by
 simp[Instr.sliceBound,asIntOf,b,c]
def qve{b:Bool}{r d:List AV}{x:Option Int}(h:uS b r=U (x,d))(c:bj P w F R r vs):
  (b=Y/\x=V/\d=r)\/(b=Z/\∃ k n v a,x=U n/\vs=v::a/\v=.int k n/\bj P w F R d a):=by
 unfold uS at h;split at h;simp at h;exact .inl ⟨rfl,h.1.symm,h.2.symm⟩;cases h;cases vs with
 |nil=>exact c.elim
 |cons v vs=>exact .inr ⟨rfl,_,_,v,vs,rfl,rfl,c.1.2.1,c.2⟩
 cases h
def qz8{E:TypeInfo}{tt:Ty}{y:List tt.den}{l h k:Option Int}{kl kh kk:IntKind}{c:AC}{n:List Prop}{A:Option Addr}{a:Nat}(D:P.underlying t=U (.slice e))(B:P.info? e=U E)(C:P.cellsOf e=tt.size)(b:KQ tt y l h k=U (c,n))(x:av n)(s:aA w F (.sl tt) y (λ_ u=>u=.slice A y.length a)):
  ∃ u,(Instr.sliceAt t (.slice A y.length a) (l.map (.int kl)) (h.map (.int kh)) (k.map (.int kk))).run P w=.ok u w/\u.oneCell'=Z/\bc P w F R c u:=by
 have v:y.length<=a:=by
  obtain⟨G,H,z,K,_⟩:=s;simp at z;omega
 have d:∀ (lo hi mx:Nat),(Instr.sliceBounds Z y.length a (l.map (.int kl)) (h.map (.int kh)) (k.map (.int kk))).run P w=.ok (lo,hi,mx) w ->
   (Instr.sliceAt t (.slice A y.length a) (l.map (.int kl)) (h.map (.int kh)) (k.map (.int kk))).run P w=.ok (.slice (if mx=lo then A else A.map (·.add (lo*tt.size))) (hi-lo) (mx-lo)) w:=by
  intro lo hi mx o;simp[Instr.sliceAt,Instr.slice,ud5 D,o,gw B,C]
 unfold KQ at b;split at b;cases b;obtain⟨i,j,r⟩:=x;have o:(Instr.sliceBounds Z y.length a (l.map (.int kl)) (h.map (.int kh)) ((none:Option Int).map (.int kk))).run P w=.ok ((l.getD 0).toNat,(h.getD y.length).toNat,a) w:=by
  cases h with
  |none=>
   cases l with
   |none=>simp[Instr.sliceBounds]
   |some lo=>simp at i j r;simp[Instr.sliceBounds,kY i j]
  |some hi=>
   have m:hi<=(a:Int):=by simp at r;omega
   have f:0<=hi:=by simp at j;omega
   cases l with
   |none=>simp[Instr.sliceBounds,kY f m]
   |some lo=>
    simp at i j r;simp[Instr.sliceBounds,kY f m,kY (P:=P) (w:=w) (y:=hi.toNat) i (by omega)]
 have g:=Vl (lo:=(l.getD 0).toNat) (hi:=(h.getD y.length).toNat) s (by omega) (by omega) (by omega) (ue9 _);refine⟨_,d _ _ _ o,rfl,?_⟩;rw[show((h.getD y.length)-(l.getD 0)).toNat=(h.getD y.length).toNat-(l.getD 0).toNat from by omega];exact g;rename_i q;split at b<;>try trivial
 cases b;obtain⟨i,j,r,rfl⟩:=x;have o:(Instr.sliceBounds Z y.length a (l.map (.int kl)) ((U q).map (.int kh)) ((U q).map (.int kk))).run P w=.ok ((l.getD 0).toNat,q.toNat,q.toNat) w:=by
  have m:q<=(a:Int):=by omega
  have f:0<=q:=by omega
  cases l with
  |none=>simp[Instr.sliceBounds,kY f m,kY (P:=P) (w:=w) (y:=q.toNat) f (by omega)]
  |some lo=>
   simp at i j;simp[Instr.sliceBounds,kY f m,kY (P:=P) (w:=w) (y:=q.toNat) f (by omega),kY (P:=P) (w:=w) (y:=q.toNat) i (by omega)]
 have g:=Vl (lo:=(l.getD 0).toNat) (mx:=q.toNat) s (by omega) (by omega) (ue9 _) (by omega);refine⟨_,d _ _ _ o,rfl,?_⟩;have p:((y.drop (l.getD 0).toNat).take (q-(l.getD 0)).toNat).length=q.toNat-(l.getD 0).toNat:=by simp;omega
 refine⟨_,by rw[p],?_⟩;rw[show(q-(l.getD 0)).toNat=q.toNat-(l.getD 0).toNat from by omega];exact g
def xp:{ps:List PT} -> {cs:List AC} -> {x:ag ps} -> {vs:List Value}->gY ps cs=U x->bj P w F R (cs.map .c) vs->cJ P w F ps x vs
 |[],[],_,[],_,_=>rfl
 |.d t::r,a::s,x,v::vs,h,b=>by
  simp only[gY]at h;split at h;rename_i y z m e;cases h;exact⟨v,vs,rfl,qP m b.1,xp e b.2⟩;cases h
 |.ptr t::r,.sptr cs::s,x,v::vs,h,b=>by
  simp only[gY]at h;split at h;rename_i y q z m e;cases h;obtain⟨_,ad,i,j,k⟩:=b.1;exact⟨v,vs,rfl,⟨ad,i,j,(aA.dec t m k).1⟩,xp e b.2⟩;cases h
 |.pfn ps rs::r,.sptr [.fv C D g]::s,x,v::vs,h,b=>by
  simp only[gY]at h;split at h<;>try trivial
  rename_i B;split at h<;>try trivial
  rename_i A;split at h<;>try trivial
  rename_i y e;cases h;subst B;subst A;obtain⟨_,ad,i,j,⟨⟨u,k,_,l⟩,_⟩⟩:=b.1;exact⟨v,vs,rfl,⟨ad,u,i,j,k,l⟩,xp e b.2⟩
 |.pfn _ _::_,.sptr [.fv _ _ _]::_,_,[],_,b=>b.elim
 |.pk f::r,.sptr [.fn G []]::s,x,v::vs,h,b=>by
  simp only[gY]at h;split at h<;>try trivial
  rename_i p;split at h<;>try trivial
  rename_i y e;cases h;subst p;obtain⟨_,ad,i,j,⟨⟨u,k,_,l⟩,_⟩⟩:=b.1;obtain⟨E,rfl,n,_⟩:=l;have o:=Array.size_eq_zero_iff.mp n;subst o;exact⟨v,vs,rfl,⟨ad,i,j,k⟩,xp e b.2⟩
 |.pk _::_,.sptr [.fn _ []]::_,_,[],_,b=>b.elim
 |[],[],_,_::_,_,b=>b.elim
 |[],_::_,_,_,h,_=>by simp[gY]at h
 |_::_,[],_,_,h,_=>by simp[gY]at h
 |.d _::_,_::_,_,[],_,b=>b.elim
 |.ptr _::_,.sptr _::_,_,[],_,b=>b.elim
 |.fn _ _::_,_::_,_,_,h,_=>by simp[gY]at h
 |.pf _ _::_,_::_,_,_,h,_=>by simp[gY]at h
 |.ptr _::_,.dead::_,_,_,h,_ | .ptr _::_,.int _ _::_,_,_,h,_ | .ptr _::_,.bool _::_,_,_,h,_ | .ptr _::_,.str _::_,_,_,h,_ | .ptr _::_,.nil::_,_,_,h,_
 |.ptr _::_,.sl _ _::_,_,_,h,_ | .ptr _::_,.slx _ _::_,_,_,h,_ | .ptr _::_,.own _::_,_,_,h,_ | .ptr _::_,.ptr _ _::_,_,_,h,_ | .ptr _::_,.fn _ _::_,_,_,h,_ | .ptr _::_,.fv _ _ _::_,_,_,h,_ | .ptr _::_,.pv _ _ _ _::_,_,_,h,_ | .ptr _::_,.mp _::_,_,_,h,_ | .ptr _::_,.fs _ _::_,_,_,h,_=>by simp[gY]at h
def qc5{t u:Ty}(h:t=u){x:t.den}(a:bu w F t x v):bu w F u (GT h x) v:=by subst h;exact a
def Hx:{ps:List Ty} -> {b:List PT} -> {a:List AC} -> {f:aa ps->ag b}->jC ps b a=U f->(x:aa ps) -> {vs e:List Value}->dM w F ps x vs->bj P w F R (a.map .c) e->cJ P w F b (f x) (vs++e)
 |[],b,a,f,h,x,vs,e,k,j=>by
  simp only[jC]at h;split at h;rename_i q i;cases h;cases k;exact xp i j;cases h
 |t::r,.d p::b,a,f,h,x,vs,e,k,j=>by
  simp only[jC]at h;split at h;rename_i o;split at h;rename_i g n;cases h;obtain⟨v,l,rfl,i,m⟩:=k;exact⟨v,l++e,rfl,qc5 o i,Hx n x.2 m j⟩;cases h;cases h
 |_::_,[],_,_,h,_,_,_,_,_=>by simp[jC]at h
 |_::_,.ptr _::_,_,_,h,_,_,_,_,_=>by simp[jC]at h
 |_::_,.fn _ _::_,_,_,h,_,_,_,_,_=>by simp[jC]at h
 |_::_,.pf _ _::_,_,_,h,_,_,_,_,_=>by simp[jC]at h
 |_::_,.pfn _ _::_,_,_,h,_,_,_,_,_=>by simp[jC]at h
 |_::_,.pk _::_,_,_,h,_,_,_,_,_=>by simp[jC]at h
def AX{a:List AC}(b:vs.length=a.length)(h:aN P w F R a (λj u=>vs[j]?= U u)):bj P w F R (a.map .c) vs:=by
 induction a generalizing vs with
 |nil=>cases vs with
  |nil=>trivial
  |cons _ _=>simp at b
 |cons c r i=>cases vs with
  |nil=>simp at b
  |cons v vs=>
   obtain⟨⟨u,d,e,f⟩,g⟩:=h;simp at d;subst d;exact⟨⟨e,f⟩,i (by simpa using b) (by simpa using g)⟩
def Uj{rs a:List Ty}(k:rs=a){y:aa rs}{e:Ending}{b c:World}{F1:Nat->Prop}(h:fJ b F1 rs y e c):fJ b F1 a (AY k y) e c:=by subst k;exact h
def qxa{ps a rs b:List Ty}(h:ps=a)(k:rs=b){g:aa ps->aa rs}(c:jy P w F ps rs g v):jy P w F a b (xh h k g) v:=by subst h;subst k;exact c
def cJ.mono(a:∀ b,F b->F' b)(c:∀ b,F b->w'.heap[b]?= w.heap[b]?):{ps:List PT} -> {x:ag ps} -> {vs:List Value}->cJ P w F ps x vs->cJ P w' F' ps x vs
 |[],_,_,h=>h
 |p::_,_,_,⟨v,l,n,g,o⟩=>by
  refine⟨v,l,n,?_,cJ.mono a c o⟩;cases p with
  |d t=>exact bu.mono a c g
  |ptr t=>
   obtain⟨ad,i,e,k⟩:=g;refine⟨ad,i,a _ e,k.mono a c λj u _ q=>?_⟩;rw[<- q];exact ubd (by rw[qp];exact c _ e)
  |fn ps rs=>exact jy.mono a c g
  |pf ps rs=>exact lq.mono a c g
  |pfn ps rs=>
   obtain⟨ad,u,i,e,k,m⟩:=g;refine⟨ad,u,i,a _ e,?_,jy.mono a c m⟩;rw[<- k];exact ubd (by rw[qp];exact c _ e)
  |pk f=>
   obtain⟨ad,i,e,k⟩:=g;refine⟨ad,i,a _ e,?_⟩;rw[<- k];exact ubd (by rw[qp];exact c _ e)
def qe7(q:kN P Γ){ps rs:List Ty}{c:AC}{g:aa ps->aa rs}{n:List Prop}(h:Hw Γ ps rs c=U (g,n))(E:av n)(t:bc P w F R c v)(_hR:∀ id u,R id u->True):jy P w F ps rs g v:=by
 unfold Hw at h;split at h<;>try trivial
 split at h<;>try trivial
 rename_i m;split at h<;>try trivial
 rename_i k;obtain⟨rfl,_⟩:=h;exact qxa m k t;rename_i f d;split at h<;>try trivial
 rename_i y i;split at h<;>try trivial
 rename_i k;split at h<;>try trivial
 rename_i H l;cases h;obtain⟨vs,rfl,z,A⟩:=t;obtain⟨s1,K⟩:=q.1 f y i;refine⟨f,vs,rfl,s1,λL F1 s B xs r x=>?_⟩;have p:=x.wf;have C:=aN.mono (λb a=>(s b a).1) (λb a=>(s b a).2) (λ_ _ _=>uT) d (g':=λj u=>vs.toList[j]?= U u) (λj u G=>by simpa using G) A;have o:=Hx l xs x (AX (by simpa using z) C);have:=K L F1 (H xs) (r++vs.toList) B o (E xs p);have D:(r++vs.toList).toArray=r.toArray++vs:=by simp
 rw[D]at this;exact this.mono λe M m=>Uj k m
def qxb{ps a rs b:List Ty}(h:ps=a)(k:rs=b){g:aa ps->aa rs}{D:aa ps->Prop}(c:lq P w F ps rs g D v):lq P w F a b (xh h k g) (OB h D) v:=by subst h;subst k;exact c
def qe8(n:kN P Γ){ps rs:List Ty}{c:AC}{x:(aa ps->aa rs)×(aa ps->Prop)}(h:Hy Γ ps rs c=U x)(q:bc P w F R c v):lq P w F ps rs x.1 x.2 v:=by
 unfold Hy at h;split at h<;>try trivial
 split at h<;>try trivial
 rename_i l;split at h<;>try trivial
 rename_i i;cases h;exact qxb l i q;rename_i f d;split at h<;>try trivial
 rename_i r g;split at h<;>try trivial
 rename_i i;split at h<;>try trivial
 rename_i E k;cases h;obtain⟨vs,rfl,s,t⟩:=q;obtain⟨s1,G⟩:=n.1 f r g;refine⟨f,vs,rfl,s1,λH F1 p y xs o A D=>?_⟩;have z:=aN.mono (λb a=>(p b a).1) (λb a=>(p b a).2) (λ_ _ _=>uT) d (g':=λj u=>vs.toList[j]?= U u) (λj u C=>by simpa using C) t;have m:=Hx k xs D (AX (by simpa using s) z);have:=G H F1 (E xs) (o++vs.toList) y m A;have B:(o++vs.toList).toArray=o.toArray++vs:=by simp
 rw[B]at this;exact this.mono λe K l=>Uj i l
def mK(d:kN P Γ):{ps:List PT} -> {xs:List AV} -> {x:ag ps} -> {n:List Prop} -> {vs:List Value}->jf Γ ps xs=U (x,n)->av n->bj P w F R xs vs->cJ P w F ps x vs
 |[],[],_,_,[],_,_,_=>rfl
 |p::r,a::s,x,n,v::vs,h,f,c=>by
  simp only[jf]at h;split at h;rename_i y l z m b k;cases h;refine⟨v,vs,rfl,?_,mK d k (jd.1 f).2 c.2⟩;unfold Pl at b;split at b;split at b<;>try trivial
  rename_i e;obtain⟨rfl,_⟩:=b;exact qP e c.1;split at b<;>try trivial
  rename_i e;obtain⟨rfl,_⟩:=b;obtain⟨_,ad,g,i,j⟩:=c.1;exact⟨ad,g,i,(aA.dec _ e j).1⟩;exact qe7 d b (jd.1 f).1 c.1.2 (λ_ _ _=>uT);split at b<;>try trivial
  rename_i e;obtain⟨rfl,_⟩:=b;exact qe8 d e c.1.2;cases b;cases h
 |[],[],_,_,_::_,_,_,c=>c.elim
 |_::_,_::_,_,_,[],_,_,c=>c.elim
 |[],_::_,_,_,_,h,_,_=>by simp[jf]at h
 |_::_,[],_,_,_,h,_,_=>by simp[jf]at h
def bj.append{xs b:List AV}{a:List Value}(h:bj P w F R xs a)(k:bj P w F R b vs):bj P w F R (xs++b) (a++vs):=by
 induction xs generalizing a with
 |nil=>cases a with
  |nil=>exact k
  |cons _ _=>exact h.elim
 |cons x xs c=>cases a with
  |nil=>exact h.elim
  |cons u a=>exact⟨h.1,c h.2⟩
def GR(e:kN P Γ){k:Int}{args:List AV}(l:∀ b,F b->b<w.heap.size)(u:bj P w F R args vs):{es:List (Int×Nat)} -> {rs:List Ty} -> {y:aa rs} -> {n:List Prop} ->
  mG Γ k args es=U ⟨rs,y,n⟩->av n->∃ f,ie (es.find? (λx=>x.1==k))=.func (.func f) #[] #[]/\(∀ args m,(callFunc f args).run P m=.ok (.enter f args) m)/\Calls P f vs.toArray w (fJ w F rs y)
 |[],_,_,_,h,_=>by simp[mG]at h
 |(i,f)::es,rs,y,n,h,v=>by
  simp only[mG]at h;split at h<;>try trivial
  rename_i o s;split at h<;>try trivial
  rename_i x D B;obtain⟨s1,G⟩:=e.1 f o s;have a:k=i->av (D++o.ok x)->∃ c,ie (((i,f)::es).find? (λx=>x.1==k))=.func (.func c) #[] #[]/\(∀ args m,(callFunc c args).run P m=.ok (.enter c args) m)/\Calls P c vs.toArray w (fJ w F o.rs (o.f x)):=λd A=>by
   obtain⟨g,j⟩:=jd.1 A;refine⟨f,by simp[d,ie],s1,G w F x vs l (mK e B g u) j⟩
  split at h;injection h with h
  cases h;obtain⟨g,j⟩:=je.1 v;exact a g j;split at h<;>try trivial
  rename_i z _ E K H C;split at h<;>try trivial
  rename_i t;cases h;subst t;obtain⟨g,j⟩:=je.1 v;by_cases d:k=i;obtain⟨c,p,q,r⟩:=a d (g d);refine⟨c,p,q,?_⟩;have:(k==i)=true:=by simp[d]
  rw[this];exact r;obtain⟨c,p,q,r⟩:=GR e l u C (j d);refine⟨c,?_,q,?_⟩;rw[<- p];have:(i==k)=false:=by rw[ubw];omega
  simp[this];have:(k==i)=false:=by rw[ubw];exact d
  rw[this];exact r
def Ws(e:kN P Γ){k:Int}{cs:List AC}{args:List AV}(s:w.heap[b]?= U (.cells arr ety (0,0)))(M:arr.size=cs.length)(v:∀ u∈arr,u.oneCell'=Z)(q:aN P w F R cs (λj u=>arr[j]?= U u))(p:bj P w F R args vs):{es:List (Int×Nat)} -> {T:Ty} -> {z:T.den} -> {n:List Prop} ->
  zA Γ k cs args es=U ⟨T,z,n⟩->av n->cs.length=T.size/\∃ f,ie (es.find? (λx=>x.1==k))=.func (.func f) #[] #[]/\(∀ args A,(callFunc f args).run P A=.ok (.enter f args) A) /\
   Calls P f (Value.pointer (U ⟨b,0,V⟩)::vs).toArray w λE w'=>∃ (u:Value) (o:List Value),E=.returned u/\o.length=T.size/\w'=w.setRow b o.toArray/\aA w F T z (λj u=>o[j]?= U u)
 |[],_,_,_,h,_=>by simp[zA]at h
 |(i,f)::es,T,z,n,h,t=>by
  simp only[zA]at h;split at h<;>try trivial
  rename_i l ps g m;have s1:=e.2 f _ m;split at h<;>try trivial
  rename_i x y r N;have c:cs.length=l.size:=by have:=ku l r;simp at this;omega
  have O:=(aA.dec l r q).1;have Q:=lC N p;have a:=s1.calls w F b ety arr x y vs s (by omega) v O Q;split at h;injection h with h
  cases h;have d:k=i:=t;exact⟨c,f,by simp[d,ie],s1.enters,a⟩;split at h<;>try trivial
  rename_i G _ S z' W L;split at h<;>try trivial
  rename_i K;subst K;cases h;by_cases d:k=i;refine⟨c,f,by simp[d,ie],s1.enters,?_⟩;have:(k==i)=true:=by simp[d]
  rw[this];exact a;obtain⟨_,H,B,C,D⟩:=Ws e s M v q p L (t d);refine⟨c,H,?_,C,?_⟩;rw[<- B];have:(i==k)=false:=by rw[ubw];omega
  simp[this];have:(k==i)=false:=by rw[ubw];exact d
  rw[this];exact D
def qc3(e:kN P Γ){x:AV}{args:List AV}{r:AV}{n:List Prop}(h:GS Γ x args=U (r,n))(m:av n)(c:∀ b,F b->b<w.heap.size)(o:aE P w F R x vx)(l:bj P w F R args vs):∃ f a,vx=.func (.func f) #[] a/\(∀ args B,(callFunc f args).run P B=.ok (.enter f args) B) /\
   ∃ rs y,r=jg rs y/\Calls P f (vs.toArray++a) w (fJ w F rs y):=by
 unfold GS at h;split at h<;>try trivial
 rename_i f a;obtain⟨_,i,rfl,q,s⟩:=o;unfold O7 at h;split at h<;>try trivial
 rename_i p u;split at h<;>try trivial
 rename_i y G d;cases h;obtain⟨s1,j⟩:=e.1 f p u;refine⟨f,i,rfl,s1,p.rs,p.f y,rfl,?_⟩;have z:=mK e d (jd.1 m).1 (l.append (AX (vs:=i.toList) (by simpa using q) (by simpa using s)));have:=j w F y (vs++i.toList) c z (jd.1 m).2;have E:(vs++i.toList).toArray=vs.toArray++i:=by simp
 rw[E]at this;exact this;rename_i ps rs g;split at h<;>try trivial
 rename_i y d;cases h;have v:=o.2;obtain⟨f,a,rfl,s1,j⟩:=v;exact⟨f,a,rfl,s1,rs,g y,rfl,j w F (λb t=>⟨t,rfl⟩) c y vs (lC d l)⟩;rename_i ps rs g D;split at h<;>try trivial
 rename_i y d;cases h;have v:=o.2;obtain⟨f,a,rfl,s1,j⟩:=v;exact⟨f,a,rfl,s1,rs,g y,rfl,j w F (λb t=>⟨t,rfl⟩) c y vs m (lC d l)⟩;rename_i es k;split at h<;>try trivial
 rename_i rs y H d;cases h;have A:=o.2;simp only[bc]at A;obtain⟨f,q,s,C⟩:=GR e c l d m;rw[q]at A;exact⟨f,#[],A,s,rs,y,rfl,by simpa using C⟩
end
section
variable {P:Program} {B:Nat} {o:Oper} {a:Act} {w w':World} {F F':Nat->Prop} {γ γ':Nat->Value} {M m:aT} {R:Nat->Value->Prop} {Γ:Gm}
def cL{S:Sem Value}(b:execOp a.eval o=(do pure (.value (<- S)):Sem Next))(c:S.run P w=.ok u w'):(execOp a.eval o).run P w=.ok (.value u) w':=by
 rw[b];simp[c]
def qwf{p:Bool}{x y r:AV}(h:yA p x y=U r)(a:p=Z->aE P w F R x u)(b:p=Y->aE P w F R y v):aE P w F R r (if p then u else v):=by
 unfold yA at h;split at h<;>try trivial
 cases h;cases p;exact⟨(b rfl).1,(b rfl).2⟩;exact⟨(a rfl).1,(a rfl).2⟩;split at h<;>try trivial
 rename_i c;subst c;cases h;cases p;exact⟨(b rfl).1,(b rfl).2⟩;exact⟨(a rfl).1,(a rfl).2⟩
def ST:{r:List AV} -> {x y:Int} -> {vs:List Value}->r8 k x r=U y->inR k x->bj P w F R r vs->(vs.foldlM (m:=Sem) Builtin.min2 (.int k x)).run P w=.ok (.int k y) w/\inR k y
 |[],x,y,[],h,d,_=>by
  simp only[r8,ucl]at h;subst h;exact⟨by simp,d⟩
 |.c (.int j z)::r,x,y,v::vs,h,d,a=>by
  simp only[r8]at h;split at h<;>try trivial
  rename_i g;subst g;obtain⟨⟨_,rfl,i⟩,a⟩:=a;have b:inR k (if z<x then z else x):=by split<;>assumption
  obtain⟨e,f⟩:=ST h b a;refine⟨?_,f⟩;simp[Builtin.min2,e]
 |[],_,_,_::_,_,_,a=>a.elim
 |_::_,_,_,[],_,_,a=>a.elim
 |.dead::_,_,_,_::_,h,_,_ | .agg _::_,_,_,_::_,h,_,_ | .tup _::_,_,_,_::_,h,_,_ | .optr _ _ _ _::_,_,_,_::_,h,_,_ | .aptr _ _ _::_,_,_,_::_,h,_,_ | .maybe _ _ _::_,_,_,_::_,h,_,_=>by simp[r8]at h
 |.c .dead::_,_,_,_::_,h,_,_ | .c (.bool _)::_,_,_,_::_,h,_,_ | .c (.str _)::_,_,_,_::_,h,_,_ | .c .nil::_,_,_,_::_,h,_,_ | .c (.sl _ _)::_,_,_,_::_,h,_,_
 |.c (.slx _ _)::_,_,_,_::_,h,_,_ | .c (.own _)::_,_,_,_::_,h,_,_ | .c (.ptr _ _)::_,_,_,_::_,h,_,_ | .c (.sptr _)::_,_,_,_::_,h,_,_ | .c (.fn _ _)::_,_,_,_::_,h,_,_ | .c (.fv _ _ _)::_,_,_,_::_,h,_,_ | .c (.pv _ _ _ _)::_,_,_,_::_,h,_,_ | .c (.mp _)::_,_,_,_::_,h,_,_ | .c (.fs _ _)::_,_,_,_::_,h,_,_=>by simp[r8]at h
def SN:{r:List AV} -> {x y:Int} -> {vs:List Value}->rz k x r=U y->inR k x->bj P w F R r vs->(vs.foldlM (m:=Sem) Builtin.max2 (.int k x)).run P w=.ok (.int k y) w/\inR k y
 |[],x,y,[],h,d,_=>by
  simp only[rz,ucl]at h;subst h;exact⟨by simp,d⟩
 |.c (.int j z)::r,x,y,v::vs,h,d,a=>by
  simp only[rz]at h;split at h<;>try trivial
  rename_i g;subst g;obtain⟨⟨_,rfl,i⟩,a⟩:=a;have b:inR k (if x<z then z else x):=by split<;>assumption
  obtain⟨e,f⟩:=SN h b a;refine⟨?_,f⟩;simp[Builtin.max2,e]
 |[],_,_,_::_,_,_,a=>a.elim
 |_::_,_,_,[],_,_,a=>a.elim
 |.dead::_,_,_,_::_,h,_,_ | .agg _::_,_,_,_::_,h,_,_ | .tup _::_,_,_,_::_,h,_,_ | .optr _ _ _ _::_,_,_,_::_,h,_,_ | .aptr _ _ _::_,_,_,_::_,h,_,_ | .maybe _ _ _::_,_,_,_::_,h,_,_=>by simp[rz]at h
 |.c .dead::_,_,_,_::_,h,_,_ | .c (.bool _)::_,_,_,_::_,h,_,_ | .c (.str _)::_,_,_,_::_,h,_,_ | .c .nil::_,_,_,_::_,h,_,_ | .c (.sl _ _)::_,_,_,_::_,h,_,_
 |.c (.slx _ _)::_,_,_,_::_,h,_,_ | .c (.own _)::_,_,_,_::_,h,_,_ | .c (.ptr _ _)::_,_,_,_::_,h,_,_ | .c (.sptr _)::_,_,_,_::_,h,_,_ | .c (.fn _ _)::_,_,_,_::_,h,_,_ | .c (.fv _ _ _)::_,_,_,_::_,h,_,_ | .c (.pv _ _ _ _)::_,_,_,_::_,h,_,_ | .c (.mp _)::_,_,_,_::_,h,_,_ | .c (.fs _ _)::_,_,_,_::_,h,_,_=>by simp[rz]at h
def Ex:{u:List (Nat×Ob)} -> {m M:aT}->(∀ i y,m i=U y->M i=U y)->∀ i y,ax m u i=U y->ax M u i=U y
 |[],_,_,h=>h
 |(id,b)::r,m,M,h=>Ex (u:=r) λi y a=>by
  by_cases hi:i=id;subst hi;rw[iX]at a |-;exact a;rw[fa _ _ hi]at a |-;exact h i y a
def zqc{id:Nat}{A:TypeId}{cs cs' o:List AC}{u:List (Nat×Ob)}(x:MemOK P B w F γ M)(D:∀ b,F b->b<w.heap.size)(d:∀ i y,m i=U y->M i=U y)(p:m id=U (.box e cs))(h:jr m cs=U (cs',u))(l:ax m u id=U (.box A o)):
  ∃ F' b,γ id=.pointer (U ⟨b,0,V⟩)/\F' b/\Step B w F γ M w F' γ (ax M (u++[(id,.fbox cs')]))/\MemOK P B w F' γ (ax M (u++[(id,.fbox cs')])) /\
   aN P w F' (ap (ax M (u++[(id,.fbox cs')])) γ) cs' (λj u=>w.cell? ⟨b,j,V⟩=U u):=by
 obtain⟨b,arr,n,k,K,L,N,C⟩:=x.ob id _ (d _ _ p);obtain⟨F1,s1,z,t1,W,G⟩:=yR x D (cX.of d) h C;have g:=Ex d _ _ l;obtain⟨H,s,t,O,Q,R,S,T⟩:=z.ob id _ g;rw[n]at t;simp at t;have f:Step B w F1 γ (ax M u) w (λc=>F1 c\/c=b) γ (upd (ax M u) id (.fbox cs')):=
  ⟨λc h=>.inl h,λ_ _=>rfl,nx g (by simp),λ_ _=>rfl,rfl,rfl,rfl,ue9 _,λc h=>h.elim (s1.bd c) (λh=>by subst h;exact(uaf.1 k).1),λc h=>h.elim .inl (λh=>.inr (by omega))⟩
 have a:aN P w (λc=>F1 c\/c=b) (ap (upd (ax M u) id (.fbox cs')) γ) cs' (λj u=>w.cell? ⟨b,j,V⟩=U u):=
  (f.repCL G).turn λj v _ E=>by rw[tG k];exact E
 have q:MemOK P B w (λc=>F1 c\/c=b) γ (upd (ax M u) id (.fbox cs')):=by
  refine z.change g (by simp) f.hF f.hw (λc h=>h.elim) (λc _ r=>⟨rfl,λh=>h.elim (λh=>h) (λh=>absurd ⟨_,n,h.symm⟩ r)⟩) ?_;exact⟨b,n,Or.inr rfl,a⟩
 refine⟨λc=>F1 c\/c=b,b,n,Or.inr rfl,?_,?_,?_⟩;rw[gc];exact s1.trans f;rw[gc];exact q;rw[gc];exact a
def D6:{xs:List AV} -> {cs:List AC} -> {u:List (Nat×Ob)} -> {m M:aT} -> {F:Nat->Prop} -> {vs:List Value}->MemOK P B w F γ M->(∀ b,F b->b<w.heap.size)->(∀ i y,m i=U y->M i=U y)->vO m xs=U (cs,u)->bj P w F (ap M γ) xs vs ->
  ∃ F',Step B w F γ M w F' γ (ax M u)/\MemOK P B w F' γ (ax M u)/\bj P w F' (ap (ax M u) γ) (cs.map .c) vs
 |[],cs,u,m,M,F,[],n,o,k,h,a=>by
  obtain⟨rfl,rfl⟩:=h;exact⟨F,Step.refl o,n,uT⟩
 |x::r,cs,u,m,M,F,v::vs,n,o,k,h,a=>by
  unfold vO at h;split at h;rename_i f;cases f;rename_i id R f;cases f;split at h<;>try trivial
  rename_i e D g;split at h<;>try trivial
  rename_i cs' S l;split at h<;>try trivial
  rename_i T Q p;split at h<;>try trivial
  rename_i y O q;cases h;obtain⟨F1,b,E,G,s1,L,t⟩:=zqc n o k g l p;obtain⟨F2,d,s,A⟩:=D6 L s1.bd (Ex k) q (zE s1.hF s1.hw s1.hR a.2);obtain⟨_,N,C,rfl⟩:=a.1;have H:N=b:=by
   unfold ap at C;rw[k _ _ g]at C;simp only[E,ubt,ucl,Addr.mk.injEq,and_true]at C;exact C
  subst H;rw[gc];refine⟨F2,s1.trans d,s,⟨rfl,⟨N,0,V⟩,rfl,d.hF _ G,d.repCL (t.turn λj u _ K=>?_)⟩,A⟩;rw[i8,uex];exact K;rename_i D g;split at h<;>try trivial
  rename_i y O q;cases h;obtain⟨b,E,G,t⟩:=HH n (k _ _ g) a.1.2;obtain⟨F2,d,s,A⟩:=D6 n o k q a.2;subst E;refine⟨F2,d,s,⟨rfl,⟨b,0,V⟩,rfl,d.hF _ G,d.repCL (t.turn λj u _ K=>?_)⟩,A⟩;rw[i8,uex];exact K;rename_i c R _ f;cases f;split at h<;>try trivial
  rename_i y S l;split at h<;>try trivial
  rename_i z O q;cases h;obtain⟨F1,s1,L,W,t⟩:=D5 n o (cX.of k) l a.1.2;obtain⟨F2,d,s,A⟩:=D6 L s1.bd (Ex k) q (zE s1.hF s1.hw s1.hR a.2);rw[gc];exact⟨F2,s1.trans d,s,⟨a.1.1,bc.mono d.hF d.hw d.hR _ t⟩,A⟩;cases h
 |[],_,_,_,_,_,_::_,_,_,_,_,a=>a.elim
 |_::_,_,_,_,_,_,[],_,_,_,_,a=>a.elim
def qc4{cs:List AC}(h:bj P w F R (cs.map .c) vs):vs.length=cs.length/\aN P w F R cs (λj u=>vs[j]?= U u):=by
 induction cs generalizing vs with
 |nil=>cases vs with
  |nil=>exact⟨rfl,uT⟩
  |cons _ _=>exact h.elim
 |cons c r d=>cases vs with
  |nil=>exact h.elim
  |cons v vs=>
   obtain⟨a,b⟩:=d h.2;exact⟨by simp[a],⟨v,rfl,h.1.1,h.1.2⟩,by simpa using b⟩
def bU.take{t:Ty}{l:List t.den}(h:bU w F t l xs)(i:Nat):bU w F t (l.take i) (xs.take (i*t.size)):=by
 intro j x a;rw[ub2]at a;split at a;rename_i b;refine(h j x a).mono (λ_ h=>h) (λ_ _=>rfl) λm u d c=>?_;have:j*t.size+t.size<=i*t.size:=by rw[<- uew];exact ube _ b
 rw[ub2,ufv (by omega)];exact c;cases a
def bU.drop{t:Ty}{l:List t.den}(h:bU w F t l xs)(i:Nat):bU w F t (l.drop i) (xs.drop (i*t.size)):=by
 intro j x a;rw[ub1]at a;refine(h (i+j) x a).mono (λ_ h=>h) (λ_ _=>rfl) λm u c b=>?_;rw[ub1,<- b,ufb,ueh]
def qya{a:String}(h:CH P a ty=U f)(u:Value)(d:Array Value):(callMethod (.iface ty u) a d).run P w=(callFunc f (#[u]++d)).run P w:=by
 unfold CH at h
 split at h<;>try (cases h;done)
 rename_i i o hi m
 split at h<;>try (cases h;done)
 rename_i n b
 split at h<;>try (cases h;done)
 rename_i g k
 split at h<;>try (cases h;done)
 rename_i l
 simp at h
 subst h
 have c:n.path = #[]:=by simpa using l
 have e:(method (P.types.size+Made.depth-1+1) ty u a).run P w=.ok (g,u) w:=by
  simp[method,typeInfo,hi,b,c,k,follow,receiverAt,ud5 m,Place.get]
 have j:P.types.size+Made.depth-1+1=P.types.size+Made.depth:=by unfold Made.depth;omega
 rw[j]at e
 simp only[callMethod,ues,run_program,ucm]
 rw[e]
 simp
def IN{a:String}{k:Int}:{es b:List (Int×Nat)} -> {p:Int×Nat}->xY P a es=U b->b.find? (λx=>x.1==k)=U p->∃ ty,cD es k=U ty/\CH P a ty=U p.2
 |[],b,p,h,c=>by
  simp only[xY,ucl]at h;subst h;cases c
 |(l,ty)::es,b,p,h,c=>by
  simp only[xY]at h;split at h<;>try trivial
  rename_i f e n o;cases h;cases d:(l==k);have g:e.find? (λx=>x.1==k)=U p:=by simpa[d]using c
  obtain⟨i,j,m⟩:=IN o g;refine⟨i,?_,m⟩;unfold cD at j |-;simpa[d]using j;have q:(l,f)=p:=by simpa[d]using c
  subst q;exact⟨ty,by simp[cD,d],n⟩
def O9{k:Int}{args:List AV}:{es:List (Int×Nat)} -> {rs:List Ty} -> {y:aa rs} -> {n:List Prop}->mG Γ k args es=U ⟨rs,y,n⟩->av n->∃ p,es.find? (λx=>x.1==k)=U p
 |[],_,_,_,h,_=>by simp[mG]at h
 |(i,f)::es,rs,y,n,h,c=>by
  by_cases a:k=i;exact⟨(i,f),by simp[a]⟩;have b:(i==k)=false:=by rw[ubw];omega
  simp only[mG]at h;split at h<;>try trivial
  split at h<;>try trivial
  split at h;injection h with h
  cases h;exact absurd (je.1 c).1 a;split at h<;>try trivial
  rename_i e _ l q o j;split at h<;>try trivial
  cases h;obtain⟨m,d⟩:=je.1 c;obtain⟨p,g⟩:=O9 j (d a);exact⟨p,by simpa[b]using g⟩
def qnk(h:ya P t=Z):∃ b,P.underlying t=U (.interface b):=by
 unfold ya at h;split at h;rename_i b a;exact⟨b,a⟩;cases h
def qnl{b:Array (String×TypeId)}(a:P.underlying t=U (.interface b)):(Op.equalIn (d+1) t (.iface ty u) .nilIface).run P w=.ok Y w:=by
 simp[Op.equalIn,ud5 a]
def qnm{b:Array (String×TypeId)}(a:P.underlying t=U (.interface b)):(Op.equalIn (d+1) t .nilIface .nilIface).run P w=.ok Z w:=by
 simp[Op.equalIn,ud5 a]
def Cj{es:List (Int×Nat)}{t:Ty}{x:Int×t.den}(h:bc P w F R (.ic es t x) v):(∃ ty u,cD es x.1=U ty/\v=.iface ty u/\bu w F t x.2 u)\/(cD es x.1=V/\v=.nilIface):=by
 rcases h with ⟨ty,u,a,b,c,d,e⟩|⟨a,b⟩
 exact .inl ⟨ty,u,a,b.symm,c,d,e⟩;exact .inr ⟨a,b.symm⟩
def rD{B':Nat}{size:Nat}(h:w.ownsRow B e size v n xs)(b:∀ g,v.ownBlock=U g->B'<=g):w.ownsRow B' e size v n xs:=by
 refine⟨h.1,h.2.imp id ?_⟩;rintro⟨g,a,cur,rfl,_,rest⟩;exact⟨g,a,cur,rfl,b g rfl,rest⟩
def qvw{a:Nat}{h i:TypeId}{d f:Ty}{l:List d.den}{x:List f.den}(o:MemOK P B w F γ M)(c:a≠b)(j:M a=U (.arr h d l))(k:M b=U (.arr i f x)):
  ∀ g,(γ b).ownBlock=U g->(γ a).ownBlock≠U g:=λg n m=>o.apart b a _ _ g (λe=>c e.symm) k j (.inl n) (.inl m)
def qx1{r:Row}{args:List AV}{e:Eff}(z:zZ P f r)(L:MemOK P B w F γ M)(hb:∀ b,F b->b<w.heap.size)(W:B<=w.heap.size)(q:∀ i y,m i=U y->M i=U y)(hd:m d=V->M d=V)(h:K5 r d args m=U e)(hn:av e.need)(hr:bj P w F (ap M γ) args vs):
  (∀ as w,(callFunc f as).run P w=.ok (.enter f as) w)/\Calls P f vs.toArray w λen w'=>∃ u γ',en=.returned u/\Step B w F γ M w' F γ' (ax M e.wr)/\MemOK P B w' F γ' (ax M e.wr)/\aE P w' F (ap (ax M e.wr) γ') e.v u:=by
 unfold K5 at h;split at h<;>try trivial
 rename_i e0 T C a G;split at h<;>try trivial
 rename_i t1 l hl;split at h<;>try trivial
 rename_i h1;subst h1;split at h<;>try trivial
 rename_i n;cases h
 match vs,hr with
 |[v1],⟨⟨_,K⟩,_⟩=>
  obtain⟨A,c,xs,rfl,hc,hA,Q,R,hxc⟩:=Sz L q hl K;refine⟨z.enters,(z.calls w l.length c A xs hc (λe=>by rw[hA e];rfl) Q hxc (yQ R Q) hn.1 hn.2).mono λen w2 hp=>?_⟩;obtain⟨v',rfl,p,k⟩:=hp;have D:=λb t=>p.block b (hb b t) (by simp);have O:=rD k λg hg=>ueo W (k.lt g hg).1;obtain⟨s1,m1⟩:=uN L hb W (hd G) p O (λg hg=>(k.lt g hg).1) (bU.mono (λ_ h=>h) D R) n;exact⟨v',_,rfl,s1,m1,lP (kT k)⟩
 rename_i e0 T C a i b G;split at h<;>try trivial
 rename_i e1 t1 l e2 o x hma hmb;split at h<;>try trivial
 rename_i h1;subst h1;split at h<;>try trivial
 rename_i h2;subst h2;split at h<;>try trivial
 rename_i he;obtain⟨n,rfl,rfl,hab⟩:=he;cases h;obtain⟨⟨h0,h0'⟩,hm1,h63,hby⟩:=hn
 match vs,hr with
 |[v1,v2,v3],⟨⟨_,K⟩,⟨_,hv2⟩,⟨_,hv3⟩,_⟩=>
  have s:=q _ _ hma;have E:=q _ _ hmb;have g1:=ez s (by simp) K;have g3:=ez E (by simp) hv3;have g2:=hv2.1;subst g1 g3 g2;obtain⟨j,rfl⟩:∃ j:Nat,i=j:=⟨i.toNat,by omega⟩;obtain⟨xs,q1,q2,q3,q4⟩:=gg.of (L.ob a _ s) n;obtain⟨ns,r1,r2,r3,r4⟩:=gg.of (L.ob b _ E) n;have S:=r1;rw[hm1]at S;refine⟨z.enters,(z.calls w B l.length j (γ a) (γ b) xs ns W q1 S (qvw L hab s E) (by omega) q4 r4 h63 hby).mono λen w2 hp=>?_⟩;obtain⟨v',rfl,p,k,hbl⟩:=hp;have D:=λb t=>p.block b (hb b t) (λhe=>q2 b he.symm t);have H:bU w2 F o (kL (j:Int) (cA rfl l) (cA rfl x)) (xs.take (j*o.size)++ns++xs.drop (j*o.size)):=by
   have hc:kL (j:Int) (cA (rfl:o=o) l) (cA (rfl:o=o) x)=l.take j++x++l.drop j:=rfl;rw[hc];have n:(xs.take (j*o.size)).length=(l.take j).length*o.size:=by
    rw[uc5,uc5,q1.1,udp (show j<=l.length by omega),udp (ube _ (show j<=l.length by omega))]
   refine bU.mono (λ_ h=>h) D (bU.append (bU.append (q3.take j) n r3) ?_ (q3.drop j));rw[ub6,ub6,n,r1.1,ufb]
  have N:(kL (j:Int) (cA (rfl:o=o) l) (cA (rfl:o=o) x)).length=l.length+1:=by
   show(l.take j++x++l.drop j).length=_;simp;omega
  rw[<- N]at k;obtain⟨s1,m1⟩:=CJ L hb W s (hd G) p k (hbl.elim .inl (λh=>.inr (.inl h))) H n n;exact⟨v',_,rfl,s1,m1,lP (kT k)⟩
end
section
variable {P:Program} {B:Nat} {o:Oper} {a:Act} {w w':World} {F F':Nat->Prop} {γ γ':Nat->Value} {M m:aT} {R:Nat->Value->Prop} {Γ:Gm}
def Ty.atom:Ty->Bool
 |.unit | .pair _ _=>Y
 |_=>Z
def oE{t:Ty}(a:t.atom=Z){cs:List AC}{x:t.den}{r:List AC}(h:dec t cs=U (x,r)):∃ c,cs=c::r/\dec t [c]=U (x,[]):=by
 cases t with
 |unit=>cases a
 |pair _ _=>cases a
 |int k=>
  simp only[dec,oB]at h |-;split at h<;>try trivial
  split at h<;>try trivial
  cases h;exact⟨_,rfl,by simp[*]⟩
 |bool=>
  simp only[dec,oA]at h |-;split at h<;>try trivial
  cases h;exact⟨_,rfl,by simp⟩
 |str=>
  simp only[dec,oD]at h |-;split at h<;>try trivial
  cases h;exact⟨_,rfl,by simp⟩
 |sl e=>
  simp only[dec,oC]at h |-;split at h<;>try trivial
  split at h<;>try trivial
  rename_i a;subst a;cases h;exact⟨_,rfl,by simp⟩;split at h<;>try trivial
  rename_i a;subst a;cases h;exact⟨_,rfl,by simp⟩;cases h;exact⟨_,rfl,by simp⟩
 |fm es=>
  simp only[dec,qO]at h |-;split at h<;>try trivial
  split at h<;>try trivial
  cases h;exact⟨_,rfl,by simp[*]⟩
 |ic es t=>
  simp only[dec,qN]at h |-;split at h<;>try trivial
  split at h<;>try trivial
  rename_i a;subst a;split at h<;>try trivial
  cases h;exact⟨_,rfl,by simp[*]⟩
 |fc f=>
  simp only[dec,qM]at h |-;split at h<;>try trivial
  split at h<;>try trivial
  cases h;exact⟨_,rfl,by simp[*]⟩;split at h<;>try trivial
  cases h;exact⟨_,rfl,by simp[*]⟩
def qgk{t:Ty}(a:t.atom=Z)(x:t.den):∃ c,enc t x=[c]:=by
 cases t with
 |unit=>cases a
 |pair _ _=>cases a
 |fc f=>cases f<;>exact⟨_,rfl⟩
 |_=>exact⟨_,rfl⟩
def oF:(t:Ty) -> {cs:List AC} -> {x:t.den} -> {r:List AC}->dec t cs=U (x,r)->∀ (k:Nat) (c:AC),(enc t x)[k]?= U c->∃ (b:AC) (d:Ty) (g:d.den),cs[k]?= U b/\d.atom=Z/\dec d [b]=U (g,[])/\enc d g=[c]
 |.unit,_,_,_,_,k,c,a=>by simp[enc]at a
 |.pair t u,cs,x,r,h,k,c,a=>by
  simp only[dec]at h;split at h<;>try trivial
  rename_i g p j;split at h<;>try trivial
  rename_i w v l;cases h;have A:=ku t j;rcases uep k (enc t g).length with m|m
  simp only[enc]at a;rw[uaj m]at a;exact oF t j k c a;simp only[enc]at a;rw[uae m]at a;obtain⟨b,d,y,n,q⟩:=oF u l _ c a;refine⟨b,d,y,?_,q⟩;rw[fl]at n m;have s:p=cs.drop t.size:=dec_drop t j;rw[s,ub1]at n;rw[<- n];congr 1;omega
 |.int i,cs,x,r,h,k,c,a=>atomCase (t:=.int i) rfl h a
 |.bool,cs,x,r,h,k,c,a=>atomCase (t:=.bool) rfl h a
 |.str,cs,x,r,h,k,c,a=>atomCase (t:=.str) rfl h a
 |.sl e,cs,x,r,h,k,c,a=>atomCase (t:=.sl e) rfl h a
 |.fm es,cs,x,r,h,k,c,a=>atomCase (t:=.fm es) rfl h a
 |.ic es t,cs,x,r,h,k,c,a=>atomCase (t:=.ic es t) rfl h a
 |.fc f,cs,x,r,h,k,c,a=>atomCase (t:=.fc f) rfl h a
where
 atomCase {t:Ty} (o:t.atom=Z) {cs:List AC} {x:t.den} {r:List AC} (h:dec t cs=U (x,r)) {k:Nat} {c:AC} (a:(enc t x)[k]?= U c):∃ (b:AC) (d:Ty) (g:d.den),cs[k]?= U b/\d.atom=Z/\dec d [b]=U (g,[])/\enc d g=[c]:=by
  obtain⟨b,rfl,j⟩:=oE o h;obtain⟨z,l⟩:=qgk o x;rw[l]at a;cases k with
  |zero=>
   simp at a;subst a;exact⟨b,t,x,rfl,o,j,l⟩
  |succ k=>simp at a
 dec_drop:(t:Ty) -> {cs:List AC} -> {x:t.den} -> {r:List AC}->dec t cs=U (x,r)->r=cs.drop t.size
  |.unit,_,_,_,h=>by
   simp only[dec,ucl,ueg]at h;simp[Ty.size,h.2]
  |.pair t u,cs,x,r,h=>by
   simp only[dec]at h;split at h<;>try trivial
   rename_i g p j;split at h<;>try trivial
   rename_i w v l;cases h;rw[dec_drop u l,dec_drop t j,List.drop_drop];rfl
  |.int i,cs,x,r,h=>by obtain⟨b,rfl,_⟩:=oE (t:=.int i) rfl h;rfl
  |.bool,cs,x,r,h=>by obtain⟨b,rfl,_⟩:=oE (t:=.bool) rfl h;rfl
  |.str,cs,x,r,h=>by obtain⟨b,rfl,_⟩:=oE (t:=.str) rfl h;rfl
  |.sl e,cs,x,r,h=>by obtain⟨b,rfl,_⟩:=oE (t:=.sl e) rfl h;rfl
  |.fm es,cs,x,r,h=>by obtain⟨b,rfl,_⟩:=oE (t:=.fm es) rfl h;rfl
  |.ic es t,cs,x,r,h=>by obtain⟨b,rfl,_⟩:=oE (t:=.ic es t) rfl h;rfl
  |.fc f,cs,x,r,h=>by obtain⟨b,rfl,_⟩:=oE (t:=.fc f) rfl h;rfl
def Pm{a b:Ty}{l:List b.den}{d:a.den}(c:a.atom=Z)(h:dec a [.sl b l]=U (d,[])):enc a d=[.sl b l]:=by
 cases a with
 |sl e=>
  simp only[dec,oC]at h;split at h<;>try trivial
  rename_i g;subst g;cases h;rfl
 |unit=>cases c
 |pair _ _=>cases c
 |int k=>simp[dec,oB]at h
 |bool=>simp[dec,oA]at h
 |str=>simp[dec,oD]at h
 |fm es=>simp[dec,qO]at h
 |ic es t=>simp[dec,qN]at h
 |fc f=>simp[dec,qM]at h
def qe9{a:Ty}{c:a.den}(b:a.atom=Z)(h:dec a [.nil]=U (c,[])):∃ d,enc a c=[.sl d []]:=by
 cases a with
 |sl e=>
  simp only[dec,oC]at h;cases h;exact⟨e,rfl⟩
 |unit=>cases b
 |pair _ _=>cases b
 |int k=>simp[dec,oB]at h
 |bool=>simp[dec,oA]at h
 |str=>simp[dec,oD]at h
 |fm es=>simp[dec,qO]at h
 |ic es t=>simp[dec,qN]at h
 |fc f=>simp[dec,qM]at h
def Fy{a:Ty}{b:a.den}{d c:AC}(h:dec a [d]=U (b,[]))(i:enc a b=[c])(k:u.oneCell'=Z)(l:bc P w F R d u):bc P w F (λ_ _=>False) c u:=by
 have f:aA w F a b (λj v=>j=0/\v=u):=(aA.dec (P:=P) (R:=R) a h ⟨⟨u,⟨rfl,rfl⟩,k,l⟩,uT⟩).1;have e:=aA.enc (P:=P) (R:=λ_ _=>False) a b f;rw[i]at e;obtain⟨⟨m,⟨_,rfl⟩,_,g⟩,_⟩:=e;exact g
def Ew(a:List Nat)(d:Nat)(O:Ob)(M:aT)(i:Nat):ax M (a.map (λk=>(k,Ob.gone))++[(d,O)]) i=if i=d then U O else if i∈a then U .gone else M i:=by
 rw[gc];show upd _ d O i=_;unfold upd;by_cases c:i=d;simp[c];simp only[ufw c]
 induction a generalizing M with
 |nil=>simp[ax]
 |cons k a e=>
  simp only[uek,ax];rw[e];by_cases b:i∈a;simp[b];simp only[ufw b,uei,b,or_false];unfold upd;rfl
def MemOK.mk_(h:MemOK P B w F γ M)(a:List Nat){O:Ob}(L:M d=V)(D:∀ k∈a,∃ o,M k=U o)(hO:O ≠ .gone)(x:∀ b,F b->b<w.heap.size)(hB:B<=w.heap.size)(N:∀ b,F b->w'.heap[b]?= w.heap[b]?)(E:w'.os=w.os)(H:w'.tape=w.tape)(r:w'.output=w.output)(s:w.heap.size<=w'.heap.size)(g:∀ b,b<w.heap.size->(∀ k o,k∈a->M k=U o->¬ bK w o (γ k) b)->w'.heap[b]?= w.heap[b]?)(q:fI P B w' F (λ_ _=>False) v O)(A:∀ b,bK w' O v b->(∃ k o,k∈a/\M k=U o/\bK w o (γ k) b)\/w.heap.size<=b):
  Step B w F γ M w' F (cU γ d v) (ax M (a.map (λk=>(k,Ob.gone))++[(d,O)]))/\MemOK P B w' F (cU γ d v) (ax M (a.map (λk=>(k,Ob.gone))++[(d,O)])):=by
 have T:d ∉ a:=λm=>by obtain⟨o,p⟩:=D d m;rw[L]at p;cases p
 have K:∀ i u,ap M γ i u->ap (ax M (a.map (λk=>(k,Ob.gone))++[(d,O)])) (cU γ d v) i u:=λi u t=>by
  unfold ap at t |-;rw[Ew];by_cases hi:i=d;subst hi;rw[L]at t;exact t.elim;rw[ufw hi];by_cases m:i∈a;simp[m];rw[ufw m,eC _ _ hi];exact t
 refine⟨⟨λ_ h=>h,N,K,λb c=>?_,E,H,r,s,λb c=>ucb (x b c) s,λ_ h=>.inl h⟩,?_⟩;exact g b (by omega) λk o m p l=>by have:=(gZ (h.ob k o p) l).2.2;omega
 have f:∀ i o,(i∈a\/i=d)->ax M (a.map (λk=>(k,Ob.gone))++[(d,O)]) i=U o->(i=d/\o=O)\/(i≠d/\o=.gone):=λi o n hi=>by
  rw[Ew]at hi;by_cases l:i=d;rw[ufv l]at hi;exact .inl ⟨l,(ud3 hi).symm⟩;rw[ufw l,ufv (n.resolve_right l)]at hi;exact .inr ⟨l,(ud3 hi).symm⟩
 refine h.re (λi=>i∈a\/i=d) (λi hi=>?_) (λi hi=>eC _ _ (λe=>hi (.inr e))) N K (λb c hn=>g b c λk o m p=>hn k o (.inl m) p) ?_ ?_ ?_;rw[Ew,ufw (λe=>hi (.inr e)),ufw (λe=>hi (.inl e))];intro i o n hi;rcases f i o n hi with ⟨rfl,rfl⟩|⟨_,rfl⟩
 rw[fy];exact q.keep (λ_ h=>h) (λ_ _=>rfl) (λ_ _ h=>h.elim) (λb c=>⟨rfl,(gZ (γ:=λ_=>v) (id:=0) q c).2.1⟩);trivial;intro i o b n hi c;rcases f i o n hi with ⟨rfl,rfl⟩|⟨_,rfl⟩
 rw[fy]at c;exact(A b c).imp (λ⟨k,o,Q,R,S⟩=>⟨k,o,.inl Q,R,S⟩) (λh=>h);exact c.elim;intro i j oi oj b n G C hi W y z;rcases f i oi n hi with ⟨rfl,rfl⟩|⟨_,rfl⟩
 rcases f j oj G W with ⟨rfl,rfl⟩|⟨_,rfl⟩
 exact C rfl;exact z;exact y
def yz{O:Ob}(e:List Nat)(b:O ≠ .gone)(a:v.oneCell'=Z):aE P w F (ap (ax M (e.map (λk=>(k,Ob.gone))++[(d,O)])) (cU γ d v)) (.c (.own d)) v:=by
 refine⟨a,?_⟩;simp only[bc];unfold ap;rw[Ew,ufv rfl,fy];cases O<;>first|rfl|exact absurd rfl b
def UX{e a:Nat}(h:KG e off a=Z):rY (ed e off a)=e/\cB (ed e off a)=off/\jV (ed e off a)=a/\cj<=ed e off a/\ed e off a<dL/\a<cj:=ucx h
def qyd{tt j:Ty}{l:List j.den}{cs:List AC}{x:tt.den}(a:dec tt (cs.set off (.sl j l))=U (x,[]))(f:off<cs.length)(v:aN P w F R cs g):
  (enc tt x)[off]?= U (.sl j l)/\∀ (k:Nat) c,(enc tt x)[k]?= U c->k≠off->∃ u,g k u/\bc P w F (λ_ _=>False) c u:=by
 have t:=ku tt a;have b:off<(enc tt x).length:=by rw[fl];simp at t;omega
 refine⟨?_,λk c r s=>?_⟩;obtain⟨n,y,z,d,m,i,h⟩:=oF tt a off _ (uaq b);rw[ua0 f]at d;cases d;have:=Pm m i;rw[this]at h;rw[uaq b];exact uft U (List.cons.inj h).1.symm;obtain⟨n,y,z,d,m,i,h⟩:=oF tt a k c r;rw[ubi (λe=>s e.symm)]at d;obtain⟨u,o,p,q⟩:=v.at_ d;exact⟨u,o,Fy i h p q⟩
def qns{a:Nat}{p:Ty}{c:AC}{l:List p.den}{u:List (Nat×Ob)}(E:MemOK P B w F γ M)(f:∀ i y,m i=U y->M i=U y)(h:IT m a p c=U (l,u))(hi:a<cj)(s:bc P w F (ap M γ) c v):
  ∃ (r:List Nat) (g:List Value),u=r.map (λk=>(k,Ob.gone))/\(∀ k∈r,∃ o,M k=U o)/\w.ownsRow B a p.size v l.length g/\bU w F p l g/\(∀ y∈g,y.oneCell'=Z)/\∀ b,v.ownBlock=U b->¬ F b/\∃ k o,k∈r/\M k=U o/\bK w o (γ k) b:=by
 unfold IT at h;split at h<;>try trivial
 cases h;obtain rfl:v=.slice V 0 0:=s;exact⟨[],[],rfl,λk q=>by simp at q,ucs _ _ _ _,λi x K=>by simp at K,λy L=>by simp at L,λb n=>by simp[Value.ownBlock]at n⟩;rename_i k;split at h<;>try trivial
 rename_i e Q O q;split at h<;>try trivial
 rename_i G;subst G;split at h<;>try trivial
 rename_i D;subst D;cases h;have j:=f _ _ q;have H:=ez j (by simp) s;subst H;obtain⟨g,t,z,A,C⟩:=gg.of (E.ob k _ j) hi;exact⟨[k],g,rfl,λN d=>by simp at d;subst d;exact⟨_,j⟩,t,A,C,λb n=>⟨z b n,k,_,by simp,j,.inl n⟩⟩
def WI{i:TypeInfo}(h:(i.zero.any λz=>z.cells.size==n)=Z):∃ z,i.zero=U z/\z.cells.size=n:=by
 cases a:i.zero with
 |none=>simp[a]at h
 |some z=>exact⟨z,rfl,by simpa[a]using h⟩
def qx6{i:TypeInfo}{z:Value}(p:P.underlying t=U (.slice el))(hi:P.info? el=U i)(q:i.zero=U z)(u:v.cells.size=i.size)(f:i.size<=16777216)(g:0<i.size):
  (Instr.buildSlice t 1 #[(0,v)]).run P w=.ok (.slice (U ⟨w.heap.size,0,V⟩) 1 1) (w.alloc (.cells v.cells el)):=by
 have d:(zeroValue el).run P w=.ok z w:=by simp[zeroValue,typeInfo,hi,q]
 have b:P.cellsOf el=i.size:=by simp[Program.cellsOf,hi]
 have m:¬ (16777216<i.size):=by omega
 have c:¬ (i.size=0):=by omega
 have n:∀ a:Array Value,a.size=i.size->Instr.fill (λj=>U (j*i.size,i.size)) a [(0,v)]=U v.cells:=by
  intro a s;obtain⟨r,h⟩:=Ij v.cells.toList 0 0 a;have e:v.cells.zipIdx.foldl (λcs (x:Value×Nat)=>cs.setIfInBounds (0*i.size+x.2) x.1) a=(v.cells.toList.zipIdx 0).foldl (λcs (x:Value×Nat)=>cs.setIfInBounds (0+x.2) x.1) a:=by
   rw[<- Array.foldl_toList,Array.toList_zipIdx,Nat.zero_mul]
  simp only[Instr.fill];rw[ufw (by simp;omega)];show U _=U _;congr 1;refine Eq.trans e (uci λj=>?_);rw[h j];by_cases o:j<v.cells.size;simp[o];omega;have k:v.cells[j]?= none:=by simp;omega
  have l:a[j]?= none:=by simp;omega
  simp[k,l]
 simp only[Instr.buildSlice,ues,ud5 p,ucm,gw hi,b];simp[c,m,d,n _ _,newRow,newObj,Sem.run]
def yU{e:Nat}{tt:Ty}{l:List tt.den}(h:RwOK P B w F v e tt l K xs)(j:innB w e tt.size l.length K v b):
  ∃ i u,i<l.length/\¬ K i/\xs[i*tt.size+cB e]?= U u/\u.ownBlock=U b:=by
 obtain⟨i,u,c,d,f,g⟩:=j;obtain⟨_,_,k,_,_,a,_⟩:=h.inn i _ (uaq c) d;obtain rfl:=R6 h.own a f;exact⟨i,u,c,d,a,g⟩
def qbp{x:AV}{e:Eff}(hm:MemOK P B w F γ M)(s:∀ b,F b->b<w.heap.size)(hB:B<=w.heap.size)(H:∀ i y,m i=U y->M i=U y)(hd:m d=V->M d=V)(ht:P.underlying t=U (.slice el))(h:FT P Γ d el x m=U e)(hx:aE P w F (ap M γ) x v):
  ∃ u w' γ',(Instr.buildSlice t 1 #[(0,v)]).run P w=.ok u w'/\Step B w F γ M w' F γ' (ax M e.wr)/\MemOK P B w' F γ' (ax M e.wr)/\aE P w' F (ap (ax M e.wr) γ') e.v u:=by
 unfold FT at h;split at h<;>try trivial
 rename_i off L tt i cs q htt hi R W;split at h<;>try trivial
 rename_i t' c ht' hc;split at h<;>try trivial
 rename_i l u T;split at h<;>try trivial
 rename_i y o;split at h<;>try trivial
 rename_i p;obtain⟨r,hs,hpos,A,hz⟩:=p;obtain⟨z,hz,hzs⟩:=WI hz;obtain⟨r1,N,r3,r4,r5,r6⟩:=UX r;cases h;obtain⟨c1,c2,c3⟩:=o6 R hx;have E:off<cs.length:=(uak.1 hc).1;have C:=ku tt o;simp at C;obtain⟨p1,p2⟩:=qyd o E c2;obtain⟨Q,q1,q2,q3⟩:=c2.at_ hc;obtain⟨ks,ys,rfl,k1,k2,k3,k4,k5⟩:=qns hm H T r6 q3;have G:=qx6 (w:=w) ht hi hz (v:=v) (by omega) A (by omega);have f:∀ b,b<w.heap.size->(w.alloc (.cells v.cells el)).heap[b]?= w.heap[b]? := λb h=>udb _ _ _ h;have K:∀ b,Q.ownBlock=U b->b<w.heap.size:=λb a=>(k2.lt b a).2;have q:RwOK P B (w.alloc (.cells v.cells el)) F (.slice (U ⟨w.heap.size,0,V⟩) 1 1) (ed el off L) tt [y] (λ_=>False) v.cells.toList:=by
  refine⟨⟨by simp;omega,.inr ⟨w.heap.size,1,_,rfl,hB,by rw[r1];exact ud7 w _,ue9 _,by decide,by omega,by rw[ua3 (by simp;omega)]⟩⟩,λg hg hF=>?_,λu hu=>c3 u (ubh.1 hu),?_,?_,?_⟩;simp[Value.ownBlock]at hg;have:=s g hF;omega;intro j x' k c' n hk D;cases j with
  |succ j=>simp at n
  |zero=>
   simp at n;subst n;rw[N]at D;obtain⟨u',e1,e2⟩:=p2 k c' hk D;exact⟨u',by simpa using e1,bc.mono (λ_ h=>h) (λb a=>f b (s b a)) (λ_ _ h=>h) c' e2⟩
  intro j x' n _;cases j with
  |succ j=>simp at n
  |zero=>
   simp at n;subst n;refine⟨t',l,Q,ys,by rw[N];exact p1,by rw[N];simpa using q1,by rw[r3];exact pm k2 (λb a=>f b (K b a)),k3.mono (λ_ h=>h) (λb a=>f b (s b a)),k4,λb a=>⟨λhe=>?_,(k5 b a).1⟩⟩;simp[Value.ownBlock]at he;have:=K b a;omega
  intro i j Q uj b hi n _ _ hij;simp at hi n;omega
 obtain⟨s1,s2⟩:=hm.mk_ ks (O:=.arr (ed el off L) tt [y]) (v:=.slice (U ⟨w.heap.size,0,V⟩) 1 1) (hd W) k1 (by simp) s hB (λb a=>f b (s b a)) rfl rfl rfl (by simp) (λb a _=>f b a) (.inr (.inl ⟨r4,r5,_,q⟩)) (by
  intro b a;rcases a with a|⟨_,a⟩|a
  simp[Value.ownBlock]at a;exact .inr (by omega);obtain⟨i,u,h1,_,h2,h3⟩:=yU q a;have S:i=0:=by simpa using h1
  subst S;rw[N]at h2;have:Q=u:=by
   have h4:v.cells[off]?= U u:=by simpa using h2
   rw[q1]at h4;exact ud3 h4
  subst this;exact .inl (k5 b h3).2;cases a)
 exact⟨_,_,_,G,s1,s2,yz ks (by simp) rfl⟩
def qto{n c:Int}{kn kc:IntKind}{e:Eff}(hm:MemOK P B w F γ M)(hb:∀ b,F b->b<w.heap.size)(hB:B<=w.heap.size)(hd:m d=V->M d=V)(h:J6 P Γ d t n c m=U e)(hn:av e.need):
  ∃ u w' γ',(Instr.makeSlice t (.int kn n) (.int kc c)).run P w=.ok u w'/\Step B w F γ M w' F γ' (ax M e.wr)/\MemOK P B w' F γ' (ax M e.wr)/\aE P w' F (ap (ax M e.wr) γ') e.v u:=by
 unfold J6 at h;split at h<;>try trivial
 rename_i el ht;split at h<;>try trivial
 rename_i off W i tt hrw0 hi htt hmd;split at h<;>try trivial
 rename_i z hz;split at h<;>try trivial
 rename_i cs hcs;split at h<;>try trivial
 rename_i x r s;split at h<;>try trivial
 rename_i E;obtain⟨L,H,hs2,hs3⟩:=E;obtain⟨r1,r2,r3,r4,r5,r6⟩:=UX L;cases h;obtain⟨n1,n2,n3,n4⟩:=hn;obtain⟨z1,z2,z3⟩:=o6 hcs (tf (P:=P) (w:=w) (F:=F) (R:=ap M γ) z);have hr:=run_make w t el i z ht hi hz kn kc n c n1 n2 (by rw[ue0];omega) (by simp only[maxLen]at n3;omega);have hcn:c.toNat<=maxLen:=by omega
 have q:∀ k,k<c.toNat*i.size->(madeCells z.cells (c.toNat*i.size))[k]?= z.cells[k%z.cells.size]? := by
  intro k l;have S:0<z.cells.size:=by omega
  have D:=ufg k S;have hg:z.cells[k%z.cells.size]! = z.cells[k%z.cells.size]:=by simp[D]
  simp[madeCells,l,hg]
 have A:∀ b,b<w.heap.size->(w.alloc (.cells (madeCells z.cells (c.toNat*i.size)) el)).heap[b]?= w.heap[b]? := λb h=>udb _ _ _ h;have f:(List.replicate n.toNat x).length=n.toNat:=by simp
 have hdl:=ku tt r;have p:off<tt.size:=by
  have:=(uak.1 s).1;simp at hdl;omega
 have C:∀ k j,k<n.toNat->j<tt.size->((madeCells z.cells (c.toNat*i.size)).toList.take (n.toNat*tt.size))[k*tt.size+j]?= z.cells[j]? := λk j l hj=>by
  have hkb:k*tt.size+tt.size<=n.toNat*tt.size:=by rw[<- uew];exact ube _ l
  have hnc:n.toNat*tt.size<=c.toNat*i.size:=by rw[H];exact ube _ (by omega)
  rw[ub2,ufv (by omega),ua5,q _ (by omega),hs2];rw[show(k*tt.size+j)%tt.size=j from by rw[uev,Nat.mul_add_mod];exact Nat.mod_eq_of_lt hj]
 have hx:∀ k y,(List.replicate n.toNat x)[k]?= U y->k<n.toNat/\y=x:=λk y l=>by
  have o:=(uak.1 l);exact⟨by simpa using o.1,by have:=o.2;simpa using this.symm⟩
 have K:z.cells[off]?= U (.slice V 0 0):=by
  obtain⟨u,e1,_,e3⟩:=z2.at_ s;have e4:u=.slice V 0 0:=e3;rw[e4]at e1;exact e1
 have hxi:∃ t',(enc tt x)[off]?= U (.sl t' []):=by
  have Q:off<(enc tt x).length:=by rw[fl];exact p
  obtain⟨c0,t1,x1,a1,a2,a3,a4⟩:=oF tt r off _ (uaq Q);rw[s]at a1;cases a1;obtain⟨t',o⟩:=qe9 a2 a3;rw[o]at a4;refine⟨t',?_⟩;rw[uaq Q];exact uft U (List.cons.inj a4).1.symm
 have T:RwOK P B (w.alloc (.cells (madeCells z.cells (c.toNat*i.size)) el)) F (.slice (U ⟨w.heap.size,0,V⟩) n.toNat c.toNat) (ed el off W) tt (List.replicate n.toNat x) (λ_=>False) ((madeCells z.cells (c.toNat*i.size)).toList.take (n.toNat*tt.size)):=by
  refine⟨⟨?_,.inr ⟨w.heap.size,c.toNat,_,by rw[f],hB,by rw[r1];exact ud7 w _,by rw[f];omega,hcn,by rw[size_madeCells,H],by rw[f]⟩⟩,λg hg hF=>?_,λu hu=>?_,?_,?_,?_⟩;rw[uc5,ubu,size_madeCells,f];have:n.toNat*tt.size<=c.toNat*i.size:=by rw[H];exact ube _ (by omega)
  omega;simp[Value.ownBlock]at hg;have:=hb g hF;omega;have hu':=ubq hu;obtain⟨k,l,rfl⟩:=List.getElem_of_mem hu';have hk':k<c.toNat*i.size:=by simpa[size_madeCells]using l
  have o:=q k hk';have D:k%z.cells.size<z.cells.size:=ufg k (by omega);rw[uam (by simpa using l),uam D]at o;have h2:=ud3 o;rw[Array.getElem_toList,h2];exact z3 _ (Array.getElem_mem D);intro k y j c' l N hne;obtain⟨G,rfl⟩:=hx k y l;have hj:j<tt.size:=by have:=(uak.1 N).1;rw[fl]at this;exact this
  obtain⟨c0,t1,x1,a1,a2,a3,a4⟩:=oF tt r j c' N;obtain⟨u,e1,e2,e3⟩:=z2.at_ a1;exact⟨u,by rw[C k j G hj];exact e1,bc.mono (λ_ h=>h) (λb a=>A b (hb b a)) (λ_ _ h=>h) c' (Fy a3 a4 e2 e3)⟩;intro k y l _;obtain⟨G,rfl⟩:=hx k y l;obtain⟨t',o⟩:=hxi;exact⟨t',[],.slice V 0 0,[],by rw[r2];exact o,by rw[r2,C k off G p];exact K,ucs _ _ _ _,λi x hx=>by simp at hx,λy hy=>by simp at hy,λb a=>by simp[Value.ownBlock]at a⟩;intro k j ui uj b l hj _ _ _ o _ h3;rw[f]at l;rw[r2,C k off l p,K]at o;cases o;simp[Value.ownBlock]at h3
 obtain⟨s1,s2⟩:=hm.mk_ [] (O:=.arr (ed el off W) tt (List.replicate n.toNat x)) (v:=.slice (U ⟨w.heap.size,0,V⟩) n.toNat c.toNat) (hd hmd) (λk l=>by simp at l) (by simp) hb hB (λb a=>A b (hb b a)) rfl rfl rfl (by simp) (λb a _=>A b a) (.inr (.inl ⟨r4,r5,_,T⟩)) (by
  intro b a;rcases a with a|⟨_,a⟩|a
  simp[Value.ownBlock]at a;exact .inr (by omega);obtain⟨k,u,o,_,h2,h3⟩:=yU T a;rw[f]at o;rw[r2,C k off o p,K]at h2;cases h2;simp[Value.ownBlock]at h3;cases a)
 exact⟨_,_,_,hr,s1,s2,yz [] (by simp) rfl⟩
def qye{e:Nat}{tt:Ty}:RwOK P B w F (.slice V 0 0) e tt [] (λ_=>False) []:=
 ⟨by simpa using ucs w B (rY e) tt.size,λg d=>by simp[Value.ownBlock]at d,λu f=>by simp at f,λi x k c a=>by simp at a,λi x a=>by simp at a,λi j h l b hi=>absurd hi (Nat.not_lt_zero i)⟩
def qa6{sz:Nat}{xs a:List α}{k:Nat}(h:xs.length=n*sz)(hi:i<n)(b:k<sz):(xs++a)[i*sz+k]?= xs[i*sz+k]? := by
 have:i*sz+sz<=n*sz:=by rw[<- uew];exact ube _ hi
 rw[uaj (by omega)]
def qa7{sz:Nat}{xs a:List α}{k:Nat}(h:xs.length=n*sz)(hi:n<=i):(xs++a)[i*sz+k]?= a[(i-n)*sz+k]? := by
 have:n*sz+(i-n)*sz=i*sz:=by rw[<- ufb];congr 1;omega
 rw[uae (by omega)];congr 1;omega
def UZ{vs S:Value}{e:Nat}{tt:Ty}{l n:List tt.den}{G:List Value}(v:RwOK P B w F vs e tt l (λ_=>False) xs)(E:RwOK P B w F vx e tt n (λ_=>False) G)(hb:∀ b,F b->b<w.heap.size)(hg:w.grownBy w' vs.ownBlock)(hown:w'.ownsRow B (rY e) tt.size S (l.length+n.length) (xs++G))(hv:S.ownBlock=vs.ownBlock\/S.ownBlock=U w.heap.size)(M:∀ b,vs.ownBlock=U b\/innB w e tt.size l.length (λ_=>False) vs b->¬ (vx.ownBlock=U b\/innB w e tt.size n.length (λ_=>False) vx b)):
  RwOK P B w' F S e tt (l++n) (λ_=>False) (xs++G)/\∀ b,innB w' e tt.size (l++n).length (λ_=>False) S b->innB w e tt.size l.length (λ_=>False) vs b\/innB w e tt.size n.length (λ_=>False) vx b:=by
 have h1:=v.own.1;have hF:∀ b,F b->w'.heap[b]?= w.heap[b]? := λb a=>hg.block b (hb b a) (λD=>v.nf b D.symm a);have t:∀ b,b<w.heap.size->vs.ownBlock≠U b->w'.heap[b]?= w.heap[b]? /\ S.ownBlock≠U b:=λb hlt hne=>
  ⟨hg.block b hlt (λD=>hne D.symm),λD=>hv.elim (λh=>hne (h ▸ D)) (λh=>by rw[h]at D;simp at D;omega)⟩
 have O:∀ (x:tt.den) k c,(enc tt x)[k]?= U c->k<tt.size:=λx k c hc=>by have:=(uak.1 hc).1;rw[fl]at this;exact this
 have m:∀ i,i<(l++n).length->(∃ x,i<l.length/\l[i]?= U x/\(l++n)[i]?= U x/\∀ k,k<tt.size->(xs++G)[i*tt.size+k]?= xs[i*tt.size+k]?) \/
   (∃ x,l.length<=i/\n[i-l.length]?= U x/\(l++n)[i]?= U x/\∀ k,(xs++G)[i*tt.size+k]?= G[(i-l.length)*tt.size+k]?):=λi hi=>by
  rcases uep i l.length with h|h
  exact .inl ⟨_,h,uaq h,by rw[uaj h,uaq h],λk hk=>qa6 h1 h hk⟩;rw[ub6]at hi;exact .inr ⟨_,h,uaq (by omega),by rw[uae h,uaq (by omega)],λk=>qa7 h1 h⟩
 have f:∀ i x u,(l++n)[i]?= U x->(∃ p o,(enc tt x)[cB e]?= U (.sl p o))->(xs++G)[i*tt.size+cB e]?= U u->(i<l.length/\xs[i*tt.size+cB e]?= U u)\/(l.length<=i/\G[(i-l.length)*tt.size+cB e]?= U u):=λi x u hi Q H=>by
  obtain⟨p,o,Q⟩:=Q;rcases m i (uak.1 hi).1 with ⟨y,z,_,_,q⟩|⟨y,z,_,_,q⟩
  exact .inl ⟨z,by rw[<- q _ (O _ _ _ Q)];exact H⟩;exact .inr ⟨z,by rw[<- q];exact H⟩
 have hR:RwOK P B w' F S e tt (l++n) (λ_=>False) (xs++G):=by
  refine⟨by rw[ub6];exact hown,λg N W=>?_,λu H=>?_,?_,?_,?_⟩;rcases hv with h|h
  exact v.nf g (h ▸ N) W;rw[h]at N;simp at N;have:=hb g W;omega;rcases uds.1 H with H|H
  exact v.one u H;exact E.one u H;intro i x k c hi hc hk;rcases m i (uak.1 hi).1 with ⟨y,z,r,d,q⟩|⟨y,z,r,d,q⟩
  rw[hi]at d;cases d;obtain⟨u,e1,e2⟩:=v.cells i x k c r hc hk;exact⟨u,by rw[q k (O _ _ _ hc)];exact e1,bc.mono (λ_ h=>h) hF (λ_ _ h=>h) c e2⟩;rw[hi]at d;cases d;obtain⟨u,e1,e2⟩:=E.cells _ x k c r hc hk;exact⟨u,by rw[q k];exact e1,bc.mono (λ_ h=>h) hF (λ_ _ h=>h) c e2⟩;intro i x hi _;rcases m i (uak.1 hi).1 with ⟨y,z,r,d,q⟩|⟨y,z,r,d,q⟩
  rw[hi]at d;cases d;obtain⟨p,o,u,zs,b1,K,T,b4,b5,b6⟩:=v.inn i x r (λh=>h);have s:=λb a=>t b (T.lt b a).2 (b6 b a).1;exact⟨p,o,u,zs,b1,by rw[q _ (O _ _ _ b1)];exact K,pm T (λb a=>(s b a).1),b4.mono (λ_ h=>h) hF,b5,λb a=>⟨(s b a).2,(b6 b a).2⟩⟩;rw[hi]at d;cases d;obtain⟨p,o,u,zs,b1,K,T,b4,b5,b6⟩:=E.inn _ x r (λh=>h);have s:=λb (a:u.ownBlock=U b)=>t b (T.lt b a).2 (λD=>M b (.inl D) (.inr (E.innB (uak.1 r).1 (λh=>h) K a)));exact⟨p,o,u,zs,b1,by rw[q];exact K,pm T (λb a=>(s b a).1),b4.mono (λ_ h=>h) hF,b5,λb a=>⟨(s b a).2,(b6 b a).2⟩⟩;intro i j ui uj b hi hj _ _ hij hui huj A C;have hsl:∀ i,i<(l++n).length->∃ x,(l++n)[i]?= U x/\∃ p o,(enc tt x)[cB e]?= U (.sl p o):=λi hi=>by
   rcases m i hi with ⟨y,z,r,d,q⟩|⟨y,z,r,d,q⟩
   obtain⟨p,o,_,_,b1,_⟩:=v.inn i y r (λh=>h);exact⟨y,d,p,o,b1⟩;obtain⟨p,o,_,_,b1,_⟩:=E.inn _ y r (λh=>h);exact⟨y,d,p,o,b1⟩
  obtain⟨xi,c1,c2⟩:=hsl i hi;obtain⟨xj,d1,d2⟩:=hsl j hj;rw[ub6]at hi hj;rcases f i xi ui c1 c2 hui with ⟨p1,p2⟩|⟨p1,p2⟩
  rcases f j xj uj d1 d2 huj with ⟨q1,R⟩|⟨q1,R⟩
  exact v.disj i j ui uj b p1 q1 (λh=>h) (λh=>h) hij p2 R A C;exact M b (.inr (v.innB p1 (λh=>h) p2 A)) (.inr (E.innB (by omega) (λh=>h) R C));rcases f j xj uj d1 d2 huj with ⟨q1,R⟩|⟨q1,R⟩
  exact M b (.inr (v.innB q1 (λh=>h) R C)) (.inr (E.innB (by omega) (λh=>h) p2 A));exact E.disj _ _ ui uj b (by omega) (by omega) (λh=>h) (λh=>h) (by omega) p2 R A C
 refine⟨hR,λb a=>?_⟩;obtain⟨i,u,L,_,h2,h3⟩:=yU hR a;obtain⟨p,o,u',_,b1,K,_⟩:=hR.inn i _ (uaq L) (λh=>h);rw[h2]at K;cases K;rw[ub6]at L;rcases f i _ u (uaq (by rw[ub6];exact L)) ⟨p,o,b1⟩ h2 with ⟨p1,p2⟩|⟨p1,p2⟩
 exact .inl (v.innB p1 (λh=>h) p2 h3);exact .inr (E.innB (by omega) (λh=>h) p2 h3)
def RwOK.of{e:Nat}{t:Ty}{l:List t.den}(h:fI P B w F R v (.arr e t l))(a:cj<=e)(b:e<dL):∃ xs,RwOK P B w F v e t l (λ_=>False) xs:=by
 rcases h with ⟨k,_⟩|⟨_,_,h⟩|⟨k,_⟩
 exact absurd k (Nat.not_lt.2 a);exact h;exact absurd b (Nat.not_lt.2 k)
def qaw{k:Nat}{s:AV}{e:Eff}{vs:Value}(hm:MemOK P B w F γ M)(W:∀ b,F b->b<w.heap.size)(hB:B<=w.heap.size)(G:∀ i y,m i=U y->M i=U y)(hd:m d=V->M d=V)(h:Fw P d t s k m=U e)(hn:av e.need)(hs:aE P w F (ap M γ) s vs)(hx:aE P w F (ap M γ) (.c (.own k)) vx):
  ∃ u w' γ',(Builtin.append_ #[t,t] ty #[vs,vx]).run P w=.ok u w'/\Step B w F γ M w' F γ' (ax M e.wr)/\MemOK P B w' F γ' (ax M e.wr)/\aE P w' F (ap (ax M e.wr) γ') e.v u:=by
 unfold Fw at h;split at h<;>try trivial
 rename_i el ht;split at h<;>try trivial
 rename_i i e2 tt l2 hi hk hmd;split at h<;>try trivial
 rename_i R;obtain⟨D,r2,r3,H,K,hz0⟩:=R;obtain⟨z,hz,hzs⟩:=WI hz0;have o:=G _ _ hk;have hvx:=ez o (by simp) hx.2;subst hvx;obtain⟨ys,L⟩:=RwOK.of (hm.ob k _ o) D r2;obtain⟨A,q,hvk,hAn,r⟩:∃ A q,γ k=.slice A l2.length q/\(A=V->l2.length=0)/\∀ ad,A=U ad->∀ (j:Nat) u,ys[j]?= U u->w.cell? (ad.add j)=U u:=by
  rcases L.own.2 with ⟨h3,h4⟩|⟨g,q,cur,h3,_⟩
  exact⟨V,0,by rw[h3,h4],λ_=>h4,λad C=>by cases C⟩;refine⟨_,_,h3,(λh=>by cases h),λad C=>?_⟩;cases C;exact L.own.cells (by rw[h3];rfl)
 split at h<;>try trivial
 cases h;obtain⟨_,rfl⟩:=hs;obtain⟨v',w',e1,N,p,e4⟩:=qr t ty el i z tt.size ht hi hz H hzs K (.slice V 0 0) 0 [] (ucs w B el tt.size) A l2.length q ys hAn L.own.1 r L.one (by have:=hn.1;omega) (by have:=hn.2;simpa using this) hB;obtain⟨p1,p2⟩:=UZ (qye (e:=e2) (tt:=tt)) L W p (by rw[r3];simpa using N) e4 (λb a=>by
  rcases a with a|⟨_,_,a,_⟩
  simp[Value.ownBlock]at a;exact absurd a (Nat.not_lt_zero _))
 rw[udm,udm]at p1;rw[udm]at p2;have f:∀ b,b<w.heap.size->w'.heap[b]?= w.heap[b]? := λb h=>p.block b h (by simp[Value.ownBlock]);obtain⟨s1,s2⟩:=hm.mk_ [k] (O:=.arr e2 tt l2) (v:=v') (hd hmd) (λk' x=>by simp at x;subst x;exact⟨_,o⟩) (by simp) W hB (λb a=>f b (W b a)) p.os p.tape p.output p.size (λb a _=>f b a) (.inr (.inl ⟨D,r2,_,p1⟩)) (by
  intro b a;rcases a with a|⟨_,a⟩|a
  rcases e4 with h|h
  rw[h]at a;simp[Value.ownBlock]at a;rw[h]at a;simp at a;exact .inr (by omega);rcases p2 b a with ⟨_,_,Q,_⟩|Q
  exact absurd Q (Nat.not_lt_zero _);exact .inl ⟨k,_,by simp,o,.inr (.inl ⟨D,Q⟩)⟩;exact absurd a (nq p1.own b))
 rw[<- hvk]at e1;exact⟨v',w',_,e1,s1,s2,yz [k] (by simp) (kT p1.own)⟩;rename_i id;split at h<;>try trivial
 rename_i e3' u0 l hid;split at h<;>try trivial
 rename_i hu;subst hu;split at h<;>try trivial
 rename_i hc;obtain⟨rfl,S⟩:=hc;cases h;have n:=G _ _ hid;have hv:=ez n (by simp) hs.2;subst hv;obtain⟨xs,T⟩:=RwOK.of (hm.ob id _ n) D r2;have E:=T.own;rw[r3]at E;obtain⟨v',w',e1,N,p,e4⟩:=qr t ty el i z u0.size ht hi hz H hzs K (γ id) l.length xs E A l2.length q ys hAn L.own.1 r L.one hn.1 hn.2 hB;obtain⟨p1,p2⟩:=UZ T L W p (by rw[r3];exact N) e4 (λb hb1 hb2=>hm.apart id k _ _ b S n o (hb1.imp id_ (λh=>.inl ⟨D,h⟩)) (hb2.imp id_ (λh=>.inl ⟨D,h⟩)));have f:∀ b,b<w.heap.size->(γ id).ownBlock≠U b->w'.heap[b]?= w.heap[b]? := λb h S=>p.block b h (λC=>S C.symm);obtain⟨s1,s2⟩:=hm.mk_ [id,k] (O:=.arr e3' u0 (l++l2)) (v:=v') (hd hmd) (λk' x=>by
   simp at x;rcases x with rfl|rfl
   exact⟨_,n⟩;exact⟨_,o⟩) (by simp) W hB (λb a=>f b (W b a) (λC=>T.nf b C a)) p.os p.tape p.output p.size (λb a hno=>f b a (λC=>hno id _ (by simp) n (.inl C))) (.inr (.inl ⟨D,r2,_,p1⟩)) (by
  intro b a;rcases a with a|⟨_,a⟩|a
  rcases e4 with h|h
  exact .inl ⟨id,_,by simp,n,.inl (h ▸ a)⟩;rw[h]at a;simp at a;exact .inr (by omega);rcases p2 b a with Q|Q
  exact .inl ⟨id,_,by simp,n,.inr (.inl ⟨D,Q⟩)⟩;exact .inl ⟨k,_,by simp,o,.inr (.inl ⟨D,Q⟩)⟩;exact absurd a (nq p1.own b))
 rw[<- hvk]at e1;exact⟨v',w',_,e1,s1,s2,yz [id,k] (by simp) (kT p1.own)⟩
where
 id_ {α:Prop} (h:α):α:=h
def qql{id sz:Nat}{e:Eff}(hm:MemOK P B w F γ M)(hb:∀ b,F b->b<w.heap.size)(hsub:∀ i y,m i=U y->M i=U y)(hd:m d=V->M d=V)(h:Jz P d t id sz i off m=U e)(hn:av e.need)(hx:aE P w F (ap M γ) (.optr id sz i off) v):
  ∃ u γ',(Instr.loadAt t v).run P w=.ok u w/\Step B w F γ M w F γ' (ax M e.wr)/\MemOK P B w F γ' (ax M e.wr)/\aE P w F (ap (ax M e.wr) γ') e.v u:=by
 unfold Jz at h;split at h<;>try trivial
 rename_i p tt l hid hmd;split at h<;>try trivial
 rename_i Q O T;split at h<;>try trivial
 rename_i hc;obtain⟨r1,r2,rfl,rfl,r3,hw,hi1,hi2⟩:=hc;cases h;have G:i<l.length:=hn;have q:=hsub _ _ hid;have R:=hd hmd;have H:d≠id:=by rintro rfl;rw[R]at q;cases q
 obtain⟨xs,g⟩:=RwOK.of (hm.ob id _ q) r1 r2;have hgd:l.getD i tt.dflt=l[i]:=by rw[uah,uaq G];rfl
 rw[hgd]at T;obtain⟨t'',li',u,ys,a1,a2,a3,a4,a5,a6⟩:=g.inn i _ (uaq G) (λh=>h);rw[T]at a1;cases a1;obtain⟨A,n,c,g1,rfl⟩:=hx;have g2 : .slice (U A) n c=γ id:=by
  unfold ap at g1;rw[q]at g1;exact g1
 obtain⟨A',n',c',g3,g4⟩:=rk g.own a2;rw[<- g2]at g3;cases g3;obtain⟨ds,hds⟩:=uar.1 hi2;refine⟨u,cU γ d u,?_,?_⟩;simp[Instr.loadAt,Instr.sureAddr,loadVar,yT hds,hw,Sem.run,g4];have C:∀ j,ax M [(id,Ob.hole p tt l i),(d,.arr (jV p) Q O)] j=if j=d then U (.arr (jV p) Q O)else if j=id then U (.hole p tt l i)else M j:=λj=>by
  simp only[ax,upd]
 have hR:∀ j N,ap M γ j N->ap (ax M [(id,Ob.hole p tt l i),(d,.arr (jV p) Q O)]) (cU γ d u) j N:=λj N f=>by
  unfold ap at f |-;rw[C];by_cases z:j=d;subst z;rw[R]at f;exact f.elim;rw[ufw z];by_cases h2:j=id;subst h2;rw[q]at f;rw[ufv rfl,eC _ _ z];exact f;rw[ufw h2,eC _ _ z];exact f
 have r:∀ j o,(j=id\/j=d)->ax M [(id,Ob.hole p tt l i),(d,.arr (jV p) Q O)] j=U o->(j=d/\o=.arr (jV p) Q O)\/(j=id/\o=.hole p tt l i):=λj o K f=>by
  rw[C]at f;by_cases z:j=d;rw[ufv z]at f;exact .inl ⟨z,(ud3 f).symm⟩;rw[ufw z,ufv (K.resolve_right z)]at f;exact .inr ⟨K.resolve_right z,(ud3 f).symm⟩
 have s:RwOK P B w F (γ id) p tt l (· = i) xs:=⟨g.own,g.nf,g.one,g.cells,λj x f _=>g.inn j x f (λh=>h),λj k uj uk b f hk _ _=>g.disj j k uj uk b f hk (λh=>h) (λh=>h)⟩;have hnm:∀ b,u ≠ .map (U b):=nq a3;have L:∀ b,bK w (.arr (jV p) Q O) u b->u.ownBlock=U b:=λb a=>(lE r3 hnm).1 a;refine⟨⟨λ_ h=>h,λ_ _=>rfl,hR,λ_ _=>rfl,rfl,rfl,rfl,ue9 _,hb,λ_ h=>.inl h⟩,hm.re (λj=>j=id\/j=d) (λj f=>?_) (λj f=>eC _ _ (λe=>f (.inr e))) (λ_ _=>rfl) hR (λ_ _ _=>rfl) ?_ ?_ ?_,?_⟩;show ax M _ j=M j;rw[C,ufw (λe=>f (.inr e)),ufw (λe=>f (.inl e))];intro j o K f;rcases r j o K f with ⟨rfl,rfl⟩|⟨rfl,rfl⟩
 rw[fy];exact .inl ⟨r3,ys,a3,λb a=>(a6 b a).2,a4,a5⟩;rw[eC _ _ H.symm];exact⟨r1,r2,xs,s⟩;intro j o b K f a;refine .inl ⟨id,_,.inl rfl,q,?_⟩;rcases r j o K f with ⟨rfl,rfl⟩|⟨rfl,rfl⟩
 rw[fy]at a;exact .inr (.inl ⟨r1,g.innB G (λh=>h) a2 (L b a)⟩);rw[eC _ _ H.symm]at a;rcases a with a|⟨j,N,q1,_,q3⟩
 exact .inl a;exact .inr (.inl ⟨r1,j,N,q1,λh=>h,q3⟩);have key:∀ b,u.ownBlock=U b->¬ bK w (.hole p tt l i) (γ id) b:=λb hub a=>by
  rcases a with a|a
  exact(a6 b hub).1 a;obtain⟨j,N,q1,q2,q3,q4⟩:=yU s a;exact g.disj j i N u b q1 G (λh=>h) (λh=>h) q2 q3 a2 q4 hub
 intro j k oj ok b K W S f hk D E;rcases r j oj K f with ⟨rfl,rfl⟩|⟨rfl,rfl⟩
 rcases r k ok W hk with ⟨rfl,rfl⟩|⟨rfl,rfl⟩
 exact S rfl;rw[fy]at D;rw[eC _ _ H.symm]at E;exact key b (L b D) E;rcases r k ok W hk with ⟨rfl,rfl⟩|⟨rfl,rfl⟩
 rw[fy]at E;rw[eC _ _ H.symm]at D;exact key b (L b E) D;exact S rfl;refine⟨kT a3,?_⟩;simp only[bc];unfold ap;rw[C,ufv rfl,fy]
def qv0{sz:Nat}(h:w.ownsRow B e sz v n xs)(p:j<n*sz):
  ∃ b arr a,v=.slice (U ⟨b,0,V⟩) n a/\w.heap[b]?= U (.cells arr e (0,0))/\B<=b/\j+1<=arr.size/\∀ u,(w.setRow b (cF arr j [u])).ownsRow B e sz v n (xs.set j u):=by
 obtain⟨r,⟨_,rfl⟩|⟨b,a,cur,rfl,m,o,f,i,l,t⟩⟩:=h;simp at p;have s:n*sz<=a*sz:=ube _ f;have q:j + [Value.nilFunc].length<=cur.size:=by simp;omega
 refine⟨b,cur,a,rfl,o,m,by omega,λu=>?_⟩;have d:j + [u].length<=cur.size:=by simp;omega
 refine⟨by simp[r],.inr ⟨b,a,_,rfl,m,ufc w b cur _ e (0,0) o,f,i,by rw[yy d];exact l,?_⟩⟩;rw[<- t];refine List.ext_getElem? λk=>?_;rw[ub2,List.getElem?_set];by_cases g:k<n*sz;rw[ufv g,ua5];by_cases c:j=k;subst c;rw[ufv rfl,ufv (by simp;omega)];have:=yx d (j:=0) (by simp);simpa using this;rw[ufw c,rC d (by simp;omega),ub2,ufv g,ua5];rw[ufw g];by_cases c:j=k;omega;rw[ufw c,ub2,ufw g]
def zaw{id sz k:Nat}{e:Eff}{vk:Value}(hm:MemOK P B w F γ M)(hb:∀ b,F b->b<w.heap.size)(hsub:∀ i y,m i=U y->M i=U y)(h:Li P t id sz i off k m=U e)(hn:av e.need)(hx:aE P w F (ap M γ) (.optr id sz i off) v)(hk:aE P w F (ap M γ) (.c (.own k)) vk):
  e.v=.dead/\∃ w',(Instr.storeAt t v vk).run P w=.ok () w'/\Step B w F γ M w' F γ (ax M e.wr)/\MemOK P B w' F γ (ax M e.wr):=by
 unfold Li at h;split at h<;>try trivial
 rename_i z tt l j e2 t2 l2 hid hmk;split at h<;>try trivial
 rename_i t' ht';split at h<;>try trivial
 rename_i f;obtain⟨rfl,rfl,r3,rfl,rfl,hi1,hcell,hne⟩:=f;split at h<;>try trivial
 rename_i y H;cases h;obtain⟨hil,rfl⟩:i<l.length/\i=j:=hn;have E:=hsub _ _ hid;have hMk:=hsub _ _ hmk;obtain⟨r1,r2,xs,g⟩:=hm.ob id _ E;have hvk:=ez hMk (by simp) hk.2;subst hvk;obtain⟨zs,z1,z2,z3,z4⟩:=gg.of (hm.ob k _ hMk) r3;have L:(γ k).oneCell'=true:=kT z1;have hcl:(γ k).cells = #[γ k]:=by cases D:γ k<;>first|rfl|(rw[D]at L;simp[Value.oneCell']at L)
 have hgd:l.getD i tt.dflt=l[i]:=by rw[uah,uaq hil];rfl
 rw[hgd]at H;have hlen:=ku tt H;have s:cB z<tt.size:=by
  unfold KM at ht';split at ht'<;>try trivial
  rename_i D;have:=(uak.1 D).1;rw[fl]at this;exact this
 have hpos:i*tt.size+cB z<l.length*tt.size:=by
  have:i*tt.size+tt.size<=l.length*tt.size:=by rw[<- uew];exact ube _ hil
  omega
 obtain⟨b,arr,cap,hv,hh,hBb,hja,hset⟩:=qv0 g.own hpos;obtain⟨A,n,c,g1,rfl⟩:=hx;have g2 : .slice (U A) n c=γ id:=by
  unfold ap at g1;rw[E]at g1;exact g1
 rw[hv]at g2;cases g2;have hbo:(γ id).ownBlock=U b:=by rw[hv];rfl
 obtain⟨ti,hti⟩:=uar.1 hi1;have hrun:(Instr.storeAt t (.pointer (U ((⟨b,0,V⟩:Addr).add (i*tt.size+cB z)))) (γ k)).run P w=.ok () (w.setRow b (cF arr (i*tt.size+cB z) [γ k])):=by
  rw[i8,uex];have:=D8 (P:=P) (v:=γ k) hh hti (by rw[hcl];exact hcell.symm) (by rw[hcl];simpa using hja) (λu hu=>by rw[hcl]at hu;simp at hu;rw[hu];exact L);rw[hcl]at this;exact this
 have hnF:¬ F b:=g.nf b hbo;have K:∀ c,c≠b->(w.setRow b (cF arr (i*tt.size+cB z) [γ k])).heap[c]?= w.heap[c]? := λc f=>uez w b c _ f;have hM':∀ j,ax M [(k,Ob.gone),(id,.arr z tt (l.set i y))] j=if j=id then U (.arr z tt (l.set i y))else if j=k then U .gone else M j:=λj=>by
  simp only[ax,upd]
 have hR:∀ j u',ap M γ j u'->ap (ax M [(k,Ob.gone),(id,.arr z tt (l.set i y))]) γ j u':=λj u' r=>by
  unfold ap at r |-;rw[hM'];by_cases d:j=id;subst d;rw[E]at r;rw[ufv rfl];exact r;rw[ufw d];by_cases Q:j=k;subst Q;rw[ufv rfl];trivial;rw[ufw Q];exact r
 have G:∀ c,(γ k).ownBlock=U c->¬ bK w (.hole z tt l i) (γ id) c:=λc f hc'=>hm.apart k id _ _ c (λe=>hne e.symm) hMk E (.inl f) hc';have hFk:∀ c,F c->(w.setRow b (cF arr (i*tt.size+cB z) [γ k])).heap[c]?= w.heap[c]? := λc f=>K c (λe=>hnF (e ▸ f));have hst:Step B w F γ M (w.setRow b (cF arr (i*tt.size+cB z) [γ k])) F γ (ax M [(k,Ob.gone),(id,.arr z tt (l.set i y))]):=Le hb hnF hBb hR;have a:∀ (j q:Nat),j≠i->q<tt.size->(xs.set (i*tt.size+cB z) (γ k))[j*tt.size+q]?= xs[j*tt.size+q]? := λj q r D=>by
  refine ubi λhe=>?_;rcases uep j i with d|d
  have:j*tt.size+tt.size<=i*tt.size:=by rw[<- uew];exact ube _ d
  omega;have:i*tt.size+tt.size<=j*tt.size:=by rw[<- uew];exact ube _ (by omega)
  omega
 have hsame:∀ q,q≠cB z->(xs.set (i*tt.size+cB z) (γ k))[i*tt.size+q]?= xs[i*tt.size+q]? := λq D=>ubi (by omega);have C:(xs.set (i*tt.size+cB z) (γ k))[i*tt.size+cB z]?= U (γ k):=ua0 (by rw[g.own.1];exact hpos);have hsz:∀ (x:tt.den) q c,(enc tt x)[q]?= U c->q<tt.size:=λx q c f=>by have:=(uak.1 f).1;rw[fl]at this;exact this
 have hoffc:cB z<(enc tt l[i]).length:=by rw[fl];exact s
 have hyo:(enc tt y)[cB z]?= U (.sl t' l2):=by
  obtain⟨c0,t1,x1,a1,a2,a3,a4⟩:=oF tt H (cB z) _ (uaq (by rw[fl];exact s));rw[ua0 hoffc]at a1;cases a1;rw[Pm a2 a3]at a4;rw[uaq (by rw[fl];exact s)];exact uft U (List.cons.inj a4).1.symm
 have hrow:∀ j x,(l.set i y)[j]?= U x->(j=i/\x=y)\/(j≠i/\l[j]?= U x):=λj x r=>by
  by_cases d:j=i;subst d;rw[ua0 hil]at r;exact .inl ⟨rfl,(ud3 r).symm⟩;rw[ubi (λe=>d e.symm)]at r;exact .inr ⟨d,r⟩
 have hinb:∀ j x,j≠i->l[j]?= U x->∀ u c,xs[j*tt.size+cB z]?= U u->u.ownBlock=U c->c≠b:=λj x r hx u c hu f he=>by
  obtain⟨_,_,u',_,_,W,_,_,_,b6⟩:=g.inn j x hx r;rw[hu]at W;cases W;exact(b6 c f).1 (he ▸ hbo)
 have hkb:∀ c,(γ k).ownBlock=U c->c≠b:=λc f he=>G c f (.inl (he ▸ hbo));have hR2:RwOK P B (w.setRow b (cF arr (i*tt.size+cB z) [γ k])) F (γ id) z tt (l.set i y) (λ_=>False) (xs.set (i*tt.size+cB z) (γ k)):=by
  refine⟨by rw[udo];exact hset (γ k),g.nf,λu hu=>?_,?_,?_,?_⟩;rcases uap hu with d|d
  exact g.one u d;rw[d];exact L;intro j x q c r f D;rcases hrow j x r with ⟨rfl,rfl⟩|⟨d,Q⟩
  obtain⟨c0,t1,x1,a1,a2,a3,a4⟩:=oF tt H q c f;rw[ubi (λe=>D e.symm)]at a1;obtain⟨u,b1,W⟩:=g.cells j _ q c0 (uaq hil) a1 D;exact⟨u,by rw[hsame q D];exact b1,bc.mono (λ_ h=>h) hFk (λ_ _ h=>h) c (Fy a3 a4 (g.one u (ubg b1)) W)⟩;obtain⟨u,b1,W⟩:=g.cells j x q c Q f D;exact⟨u,by rw[a j q d (hsz _ _ _ f)];exact b1,bc.mono (λ_ h=>h) hFk (λ_ _ h=>h) c W⟩;intro j x r _;rcases hrow j x r with ⟨rfl,rfl⟩|⟨d,Q⟩
  exact⟨t',l2,γ k,zs,hyo,C,pm z1 (λc f=>K c (hkb c f)),z3.mono (λ_ h=>h) hFk,z4,λc f=>⟨λhe=>G c f (.inl he),z2 c f⟩⟩;obtain⟨tq,li,u,ys,b1,W,b3,b4,b5,b6⟩:=g.inn j x Q d;exact⟨tq,li,u,ys,b1,by rw[a j _ d s];exact W,pm b3 (λc f=>K c (hinb j x d Q u c W f)),b4.mono (λ_ h=>h) hFk,b5,b6⟩;intro p q up uq c hp D _ _ T N O R S;rw[udo]at hp D;by_cases d:p=i;subst d;rw[C]at N;cases N;rw[a q _ (λe=>T e.symm) s]at O;exact G c R (.inr ⟨q,uq,D,λe=>T e.symm,rk g.own O,S⟩);by_cases Q:q=i;subst Q;rw[C]at O;cases O;rw[a p _ d s]at N;exact G c S (.inr ⟨p,up,hp,d,rk g.own N,R⟩);rw[a p _ d s]at N;rw[a q _ Q s]at O;exact g.disj p q up uq c hp D d Q T N O R S
 have hat:∀ j o,(j=id\/j=k)->ax M [(k,Ob.gone),(id,.arr z tt (l.set i y))] j=U o->(j=id/\o=.arr z tt (l.set i y))\/(j≠id/\o=.gone):=λj o hs r=>by
  rw[hM']at r;by_cases d:j=id;rw[ufv d]at r;exact .inl ⟨d,(ud3 r).symm⟩;rw[ufw d,ufv (hs.resolve_left d)]at r;exact .inr ⟨d,(ud3 r).symm⟩
 refine⟨rfl,_,hrun,hst,hm.re (λj=>j=id\/j=k) (λj r=>?_) (λ_ _=>rfl) hst.hw hR (λc _ hno=>K c (λhe=>hno id _ (.inl rfl) E (.inl (he ▸ hbo)))) ?_ ?_ ?_⟩;show ax M _ j=M j;rw[hM',ufw (λe=>r (.inl e)),ufw (λe=>r (.inr e))];intro j o hs r;rcases hat j o hs r with ⟨rfl,rfl⟩|⟨_,rfl⟩
 exact .inr (.inl ⟨r1,r2,_,hR2⟩);trivial;intro j o c hs r f;rcases hat j o hs r with ⟨rfl,rfl⟩|⟨_,rfl⟩
 refine .inl ?_;rcases f with f|⟨_,f⟩|f
 exact⟨j,_,.inl rfl,E,.inl f⟩;obtain⟨p,u,q1,_,q3,q4⟩:=yU hR2 f;rw[udo]at q1;by_cases d:p=i;subst d;rw[C]at q3;cases q3;exact⟨k,_,.inr rfl,hMk,.inl q4⟩;rw[a p _ d s]at q3;exact⟨j,_,.inl rfl,E,.inr ⟨p,u,q1,d,rk g.own q3,q4⟩⟩;exact absurd f (nq g.own c);exact f.elim;intro p q op oq c hs hs' T hp D R S;rcases hat p op hs hp with ⟨rfl,rfl⟩|⟨_,rfl⟩
 rcases hat q oq hs' D with ⟨rfl,rfl⟩|⟨_,rfl⟩
 exact T rfl;exact S;exact R
def AZ{a:TypeId}(c:P.underlying a=U (.int .i64))(b:Bool)(d:Nat)(n:Int):(Instr.checkKey b (d+1) a (.int .i64 n)).run P w=.ok () w:=by
 simp[Instr.checkKey,ud5 c]
def Ih{n:Int}:(es:List MapEntry)->(l:List (Int×α))->(i:Nat)->es.length=l.length->(∀ (j:Nat) (e:MapEntry) (x:Int×α),es[j]?= U e->l[j]?= U x->e.key=.int .i64 x.1) ->
  (Instr.findNow (.int .i64) (.int .i64 n) es i=U V/\(∀ z,ip l n z=z)/\∀ y,ec l n y=l++[(n,y)]) \/
  (∃ (j:Nat) (e:MapEntry) (x:Int×α),Instr.findNow (.int .i64) (.int .i64 n) es i=U (U (i+j,e.val))/\es[j]?= U e/\l[j]?= U x/\x.1=n/\(∀ z,ip l n z=x.2)/\∀ y,ec l n y=l.set j (n,y))
 |[],[],i,_,_=>.inl ⟨rfl,λ_=>rfl,λ_=>rfl⟩
 |[],_::_,_,h,_=>by simp at h
 |_::_,[],_,h,_=>by simp at h
 |e::es,x::l,i,h,m=>by
  have s:e.key=.int .i64 x.1:=m 0 e x rfl rfl;simp only[Instr.findNow,s,Instr.sameNow,if_true];by_cases a:x.1=n;refine .inr ⟨0,e,x,by simp[a],rfl,rfl,a,λz=>by simp[ip,a],λy=>by simp[ec,a]⟩;have r:(n==x.1)=false:=by rw[ubw];exact λh=>a h.symm
  have b:(x.1==n)=false:=by rw[ubw];exact a
  simp only[r];rcases Ih (n:=n) es l (i+1) (by simpa using h) (λj g k t u=>m (j+1) g k (by simpa using t) (by simpa using u))with ⟨c,d,f⟩|⟨j,g,k,c,d,f,o,p,q⟩
  refine .inl ⟨c,λz=>?_,λy=>?_⟩;have:=d z;simp only[ip]at this |-;rw[List.find?_cons,b];exact this;simp[ec,b,f];refine .inr ⟨j+1,g,k,?_,by simpa using d,by simpa using f,o,λz=>?_,λy=>?_⟩;rw[c];congr 3;omega;have:=p z;simp only[ip]at this |-;rw[List.find?_cons,b];exact this;simp[ec,b,q]
def J9{a:Ty}(h:yj P t=U (e,a)):∃ k,P.underlying t=U (.map k e)/\P.underlying k=U (.int .i64)/\a.flat=Z/\a.wide=false:=by
 unfold yj at h;split at h<;>try trivial
 rename_i k g d;split at h<;>try trivial
 rename_i f c _;split at h<;>try trivial
 rename_i b;cases h;exact⟨k,d,c,b⟩
def KL{t:Ty}(h:t.wide=Y):t.size=1:=by cases t<;>first|rfl|(simp[Ty.wide]at h)
def JN(h:v.oneCell'=Z):v.cells = #[v]:=by cases v<;>first|rfl|simp[Value.oneCell']at h
def qtq{e:Eff}(q:MemOK P B w F γ M)(f:∀ b,F b->b<w.heap.size)(j:B<=w.heap.size)(o:m d=V->M d=V)(h:J5 P d t m=U e):
  ∃ u w' γ',(Instr.makeMap t V).run P w=.ok u w'/\Step B w F γ M w' F γ' (ax M e.wr)/\MemOK P B w' F γ' (ax M e.wr)/\aE P w' F (ap (ax M e.wr) γ') e.v u:=by
 unfold J5 at h;split at h<;>try trivial
 rename_i el z r g;cases h;obtain⟨k,_,_,n,A⟩:=J9 r;have c:∀ b,b<w.heap.size->(w.alloc (.map #[] 0)).heap[b]?= w.heap[b]? := λb h=>udb _ _ _ h;obtain⟨s1,y⟩:=q.mk_ [] (O:=.arr dL (.pair (.int .i64) z) []) (v:=.map (U w.heap.size)) (o g) (λk p=>by simp at p) (by simp) f j (λb a=>c b (f b a)) rfl rfl rfl (by simp) (λb a _=>c b a)
  (.inr (.inr ⟨ue9 _,_,#[],0,rfl,ud7 w _,λh=>by have:=f _ h;omega,j,by simp[Ty.flat,n],rfl,uff _,λi x s=>by simp at s⟩)) (by
   intro b a;rcases a with a|⟨_,i,u,l,_⟩|a
   simp[Value.ownBlock]at a;exact absurd l (Nat.not_lt_zero i);cases a;exact .inr (ue9 _))
 exact⟨_,_,_,rfl,s1,y,yz [] (by simp) rfl⟩
def wE.of{e:Nat}{t:Ty}{l:List t.den}(h:fI P B w F R v (.arr e t l))(a:dL<=e):wE B w F t l v:=by
 rcases h with ⟨k,_⟩|⟨_,k,_⟩|⟨_,h⟩
 exact absurd (Nat.lt_trans k (by decide)) (Nat.not_lt.2 a);exact absurd k (Nat.not_lt.2 a);exact h
def qqn{id:Nat}{n:Int}{e:Eff}(hm:MemOK P B w F γ M)(g:∀ i y,m i=U y->M i=U y)(h:J1 P t id n m=U e)(hx:aE P w F (ap M γ) (.c (.own id)) v):
  e.wr=[]/\∃ u,(Instr.lookup t v (.int .i64 n) Y).run P w=.ok u w/\aE P w F (ap M γ) e.v u:=by
 unfold J1 at h;split at h<;>try trivial
 rename_i el vt eb S l ht G;split at h<;>try trivial
 rename_i z L;split at h<;>try trivial
 rename_i z0 N;split at h<;>try trivial
 rename_i hc;obtain⟨E,rfl⟩:=hc;cases h;obtain⟨k,W,A,h3,C⟩:=J9 ht;have hM:=g _ _ G;have hv:=ez hM (by simp) hx.2;subst hv;obtain⟨b,es,ck,q1,q2,q3,q4,q5,q6,q7,q8⟩:=wE.of (hm.ob id _ hM) E;have O:(zeroValue el).run P w=.ok z w:=by
  cases hi:P.info? el with
  |none=>simp[hi]at L
  |some i=>simp[hi]at L;simp[zeroValue,typeInfo,hi,L]
 have a:(Instr.checkKey es.isEmpty 10000 k (.int .i64 n)).run P w=.ok () w:=AZ A es.isEmpty 9999 n;have f:(getObj b).run P w=.ok (.map es ck) w:=by simp[getObj,Sem.run,q2]
 refine⟨rfl,?_⟩;have d:∀ (j:Nat) (e:MapEntry) (x:Int×S.den),es.toList[j]?= U e->l[j]?= U x->e.key=.int .i64 x.1:=λj e x he K=>by
  obtain⟨T,o,_,_,Q⟩:=q8 j x K;rw[ua5]at he;rw[he]at o;cases o;have:=Q.1.1;simpa using this
 rcases Ih (n:=n) es.toList l 0 (by simpa using q6) d with ⟨s,p,_⟩|⟨j,T,x,s,p,a3,a4,a5,_⟩
 refine⟨z,?_,?_⟩;rw[q1];simp[Instr.lookup,ud5 W,f,a,Instr.findKey,ud5 A,s,O];rw[p];exact fT (qP N (tf (P:=P) (R:=λ_ _=>False) z));refine⟨T.val,?_,?_⟩;rw[q1];simp[Instr.lookup,ud5 W,f,a,Instr.findKey,ud5 A,s];rw[a5];obtain⟨e'',o,_,r,Q⟩:=q8 j x a3;rw[ua5]at p;rw[p]at o;cases o;refine fT ⟨by rw[JN r,KL C];rfl,⟨λhw=>(by rw[C]at hw;cases hw),λ⟨cs,D⟩=>(by rw[D]at r;simp[Value.oneCell']at r)⟩,?_⟩;refine(aA.flat (w':=w) (F':=F) h3 Q.2).mono (λ_ h=>h) (λ_ _=>rfl) λq u hq hu=>?_;rw[KL C]at hq;have H:q=0:=by omega
 subst H;rw[JN r];simpa[Ty.size]using hu
def zcp{id:Nat}{n:Int}{x:AV}{e:Eff}(hm:MemOK P B w F γ M)(hb:∀ b,F b->b<w.heap.size)(hsub:∀ i y,m i=some y->M i=some y)(h:L7 P t id n x m=some e)(hn:av e.need)(hin:inR .i64 n)(hv:aE P w F (ap M γ) (.c (.own id)) v)(hx:aE P w F (ap M γ) x vx):
  e.v=.dead/\∃ w',(Instr.mapUpdate t v (.int .i64 n) vx).run P w=.ok () w'/\Step B w F γ M w' F γ (ax M e.wr)/\MemOK P B w' F γ (ax M e.wr):=by
 unfold L7 at h;split at h<;>try trivial
 rename_i el vt eb vt' l ht hid;split at h<;>try trivial
 rename_i y hy;split at h<;>try trivial
 rename_i hc;obtain⟨hge,rfl⟩:=hc;cases h;have hlen:l.length<maxLen:=hn;obtain⟨k,h1,h2,h3,h4⟩:=J9 ht;have hM:=hsub _ _ hid;have hv:=ez hM (by simp) hv.2;subst hv;obtain⟨b,es,ck,q1,q2,q3,q4,q5,q6,q7,q8⟩:=wE.of (hm.ob id _ hM) hge;have hck:(Instr.checkKey false 10000 k (.int .i64 n)).run P w=.ok () w:=AZ h2 false 9999 n;have hob:(getObj b).run P w=.ok (.map es ck) w:=by simp[getObj,Sem.run,q2]
 have hblt:b<w.heap.size:=(uaf.1 q2).1;have hso:∀ o:Obj,(setObj b o).run P w=.ok () { w with heap:=w.heap.setIfInBounds b o }:=λo=>by simp[setObj,Sem.run,q2]
 have hkey:∀ (j:Nat) (e:MapEntry) (x:Int×vt'.den),es.toList[j]?= some e->l[j]?= some x->e.key=.int .i64 x.1:=λj e x he hx'=>by
  obtain⟨e',k1,_,_,k4⟩:=q8 j x hx';rw[ua5]at he;rw[he]at k1;cases k1;have:=k4.1.1;simpa using this
 obtain⟨d1,d2,d3⟩:=qP hy hx;have hone:vx.oneCell'=true:=by
  cases hvx:vx with
  |agg cs=>
   have:=d2.2 ⟨cs,hvx⟩;rw[h4]at this;cases this
  |tuple cs=>
   rw[hvx]at hx;cases x with
   |c a=>simp[aE,Value.oneCell']at hx
   |agg cs=>simp[aE]at hx
   |_=>simp[lB]at hy
  |_=>rfl
 have hrep:aA w (λ_=>False) vt' y (λj u=>j=0/\u=vx):=by
  refine(aA.flat (w':=w) (F':=λ_=>False) h3 d3).mono (λ_ h=>h) (λ_ _=>rfl) λj u hj hu=>?_;rw[KL h4]at hj;have hj0:j=0:=by omega
  subst hj0;rw[JN hone]at hu;exact⟨rfl,by simpa using hu.symm⟩
 have hpair:aA w (λ_=>False) (.pair (.int .i64) vt') (n,y) (λj u=>[Value.int .i64 n,vx][j]?= some u):=by
  refine⟨⟨by simp,hin⟩,hrep.mono (λ_ h=>h) (λ_ _=>rfl) λj u _ hu=>?_⟩;obtain⟨rfl,rfl⟩:=hu;simp[Ty.size]
 have hend:∀ (es':Array MapEntry) ck',es'.size=(ec l n y).length->(ec l n y).length<=maxLen->(∀ (i:Nat) x,(ec l n y)[i]?= some x->∃ e,es'[i]?= some e/\e.key.oneCell'=true/\e.val.oneCell'=true/\aA w (λ_=>False) (.pair (.int .i64) vt') x (λj u=>[e.key,e.val][j]?= some u)) ->
   Step B w F γ M { w with heap:=w.heap.setIfInBounds b (.map es' ck') } F γ (ax M [(id,.arr eb (.pair (.int .i64) vt') (ec l n y))])/\MemOK P B { w with heap:=w.heap.setIfInBounds b (.map es' ck') } F γ (ax M [(id,.arr eb (.pair (.int .i64) vt') (ec l n y))]):=by
  intro es' ck' g1 g2 g3;have hoth:∀ c,c≠b->({ w with heap:=w.heap.setIfInBounds b (.map es' ck') }:World).heap[c]?= w.heap[c]? := λc hc=>by
   show(w.heap.setIfInBounds b _)[c]?= _;rw[Array.getElem?_setIfInBounds];rw[ufw (λe=>hc e.symm)]
  have hsame:({ w with heap:=w.heap.setIfInBounds b (.map es' ck') }:World).heap[b]?= some (.map es' ck'):=by
   show(w.heap.setIfInBounds b _)[b]?= _;rw[Array.getElem?_setIfInBounds];simp[hblt]
  have hst:Step B w F γ M { w with heap:=w.heap.setIfInBounds b (.map es' ck') } F γ (upd M id (.arr eb (.pair (.int .i64) vt') (ec l n y))):=
   ⟨λ_ h=>h,λc h=>hoth c (λe=>q3 (e ▸ h)),nx hM (by simp),λc h=>hoth c (by omega),rfl,rfl,rfl,by simp,λc h=>by have:=hb c h;simpa using this,λ_ h=>.inl h⟩
  refine⟨hst,hm.change hM (by simp) hst.hF hst.hw (λc hc=>?_) (λc _ hne=>⟨hoth c (λe=>hne (.inr (.inr (e ▸ q1)))),λh=>h⟩) (.inr (.inr ⟨hge,b,es',ck',q1,hsame,q3,q4,q5,g1,g2,λi x hx=>?_⟩))⟩
  ·rcases hc with hc|⟨_,i,u,_,_,⟨A,_,_,hc,_⟩,_⟩|hc
   ·rw[q1]at hc;simp[Value.ownBlock]at hc
   ·rw[q1]at hc;cases hc
   ·exact .inr (.inr hc)
  ·obtain⟨e,k1,k2,k3,k4⟩:=g3 i x hx;exact⟨e,k1,k2,k3,k4.mono (λ_ h=>h) (λ_ h=>h.elim) (λ_ _ _ h=>h)⟩
 refine⟨rfl,?_⟩;rcases Ih (n:=n) es.toList l 0 (by simpa using q6) hkey with ⟨a1,_,a3⟩|⟨j,e',x',a1,a2,a3,a4,_,a6⟩
 ·rw[a3]at hend |-;refine⟨_,?_,hend (es.push ⟨.int .i64 n,vx,ck⟩) (ck+1) (by simp[q6]) (by simp;omega) λi x hx=>?_⟩
  ·rw[q1];simp[Instr.mapUpdate,ud5 h1,hob,hck,Instr.findKey,ud5 h2,a1,hso]
  ·rcases uep i l.length with hi|hi
   ·rw[uaj hi]at hx;obtain⟨e,k1,k2⟩:=q8 i x hx;exact⟨e,by rw[Array.getElem?_push_lt (by omega)];rw[uam (by omega)]at k1;exact k1,k2⟩
   ·rw[uae hi]at hx;have hi0:i-l.length=0:=by
     have:=(uak.1 hx).1;simp at this;omega
    rw[hi0]at hx;simp at hx;subst hx;refine⟨⟨.int .i64 n,vx,ck⟩,?_,rfl,hone,hpair⟩;have:i=es.size:=by omega
    subst this;simp
 ·have a2':es[j]?= some e':=by rw[<- ua5];exact a2
  rw[a6]at hend |-;have hkx:=hkey j e' x' a2 a3;have hjl:j<l.length:=(uak.1 a3).1;have hsb:(Instr.keyThatStays e'.key (.int .i64 n)).run P w=.ok (.int .i64 n) w:=by
   rw[hkx,a4];simp[Instr.keyThatStays,Instr.sameBits]
  refine⟨_,?_,hend (es.modify j λe=>{ e with key:=.int .i64 n,val:=vx }) ck (by simp[q6]) (by simp;omega) λi x hx=>?_⟩
  ·rw[q1];simp[Instr.mapUpdate,ud5 h1,hob,hck,Instr.findKey,ud5 h2,a1,a2',hsb,hso]
  ·by_cases hi:i=j
   ·subst hi;rw[ua0 hjl]at hx;cases hx;exact⟨{ e' with key:=.int .i64 n,val:=vx },by rw[Array.getElem?_modify];simp[a2'],rfl,hone,hpair⟩
   ·rw[ubi (λe=>hi e.symm)]at hx;obtain⟨e,k1,k2⟩:=q8 i x hx;exact⟨e,by rw[Array.getElem?_modify];simp[hi,Ne.symm hi,k1],k2⟩
def qnn{x:AV}{e:Eff}(h:IQ P t x=U e)(i:aE P w F R x v):e.wr=[]/\∃ u,(Instr.makeInterface t v).run P w=.ok u w/\aE P w F R e.v u:=by
 unfold IQ at h;split at h<;>try trivial
 rename_i el id a;cases h;obtain⟨_,b,c,rfl⟩:=i;exact⟨rfl,_,by simp[Instr.makeInterface,ud5 a],rfl,b,c,rfl⟩;rename_i d a _;split at h<;>try trivial
 rename_i tt g;split at h<;>try trivial
 rename_i y n;cases h;obtain⟨c,k,l⟩:=qP n i;have f:∀ j,d ≠ .interface j:=λj m=>by
  subst m;simp[kg,a]at g
 refine⟨rfl,.iface t v,?_,rfl,.inl ⟨t,v,by simp[cD],rfl,c,k,l⟩⟩;simp only[Instr.makeInterface,ues,ud5 a,ucm];cases d<;>first|(exact absurd rfl (f _))|rfl
def qay{xt:TypeId}{ok:Bool}{es:List (Int×Nat)}{t:Ty}{x:Int×t.den}{e:Eff}(h:Fx P ty ok es t x=U e)(m:av e.need)(o:aE P w F R (.c (.ic es t x)) v):
  e.wr=[]/\∃ u,(Instr.typeAssert v xt ty ok).run P w=.ok u w/\aE P w F R e.v u:=by
 have key:(∃ d,P.underlying ty=U d/\∀ i,d ≠ .interface i)->cD es x.1=U ty->∃ u,(Instr.typeAssert v xt ty ok).run P w=.ok u w/\aE P w F R (if ok then .tup [dE t x.2,.c (.bool Z)]else dE t x.2) u:=by
  rintro⟨d,j,a⟩ l;rcases Cj o.2 with ⟨r,u,b,rfl,p⟩|⟨b,_⟩
  rw[l]at b;cases b;have n:=fT (P:=P) (R:=R) p;cases ok with
  |true=>
   refine⟨.tuple #[u,.bool Z],?_,?_⟩;simp only[Instr.typeAssert,ues,ud5 j,ucm];cases d<;>first|(exact absurd rfl (a _))|simp
   exact⟨_,rfl,rfl,⟨u,rfl,n⟩,⟨_,rfl,rfl,rfl⟩,uT⟩
  |false=>
   refine⟨u,?_,n⟩;simp only[Instr.typeAssert,ues,ud5 j,ucm];cases d<;>first|(exact absurd rfl (a _))|simp
  rw[l]at b;cases b
 unfold Fx at h;split at h<;>try trivial
 rename_i s k g;cases h;exact⟨rfl,key ⟨_,g,λi f=>by cases f⟩ m⟩;rename_i q k g;cases h;exact⟨rfl,key ⟨_,g,λi f=>by cases f⟩ m⟩
def qqm(p:kN P Γ){H:AV}{args:List AV}{e:Eff}{O:Value}(N:MemOK P B w F γ M)(s:∀ b,F b->b<w.heap.size)(T:B<=w.heap.size)(o:∀ i y,m i=U y->M i=U y)(h:J0 Γ H args m=U e)(hn:av e.need)(hf:aE P w F (ap M γ) H O)(ha:bj P w F (ap M γ) args vs):
  e.wr=[]/\∃ f a,O=.func (.func f) #[] a/\(∀ args E,(callFunc f args).run P E=.ok (.enter f args) E)/\Calls P f (vs.toArray++a) w λG w'=>∃ u,G=.returned u/\Step B w F γ M w' F γ M/\MemOK P B w' F γ M/\aE P w' F (ap M γ) e.v u:=by
 unfold J0 at h;split at h<;>try trivial
 split at h<;>try trivial
 rename_i f a r u D;split at h<;>try trivial
 rename_i Q t;split at h<;>try trivial
 rename_i j;split at h<;>try trivial
 rename_i x n hx;cases h;obtain⟨F1,s1,m1,t1,r1⟩:=iy N s (cX.of o) D ha;obtain⟨_,q,rfl,R,S⟩:=hf;obtain⟨z,A⟩:=jd.1 hn;have g:bj P w F1 (ap (ax M u) γ) (a.map .c) q.toList:=AX (by simpa using R) (aN.mono s1.hF s1.hw s1.hR a (λ_ _ h=>h) (by simpa using S));have C:=mK p hx z (r1.append g);obtain⟨q1,q2⟩:=p.1 f Q t;refine⟨rfl,f,q,rfl,q1,?_⟩;have L:=q2 w F1 x _ s1.bd C A;have du:(vs++q.toList).toArray=vs.toArray++q:=by simp
 rw[du]at L;refine L.mono λG E hp=>?_;obtain⟨v2,F2,rfl,d,W,K,l⟩:=hp;obtain⟨s2,m2⟩:=Step.below (F':=F) N T s d (λ_ h=>h) (λb k=>⟨.inl k,ucb (s b k) d.size⟩);exact⟨v2,rfl,s2,m2,tN (l.flat j)⟩
def TJ{e:Eff}{S:Sem Unit}(d:execOp a.eval o=(do S;pure .skip:Sem Next))(b:e.v=.dead)(g:S.run P w=.ok () w')(h:Step B w F γ M w' F γ (ax M e.wr))(f:MemOK P B w' F γ (ax M e.wr)):sV P B o a w F γ M e.v e.wr:=by
 rw[b];intro K Q c;unfold Oper.wp;have:(execOp a.eval o).run P w=.ok .skip w':=by
  rw[d];simp[g]
 rw[this];exact c undef w' F γ h f trivial
def qeg(hΓ:kN P Γ){op:Op}{vs:List AV}{e:Eff}(L:o.op=op)(G:MemOK P B w F γ M)(H:∀ b,F b->b<w.heap.size)(hB:B<=w.heap.size)(p:∀ i y,m i=U y->M i=U y)(hd:m d=V->M d=V)(A:Hh P Γ d op vs m=U e)(R:av e.need)(l:bj P w F (ap M γ) vs (op.operands.toList.map a.eval)):sV P B o a w F γ M e.v e.wr:=by
 unfold Hh at A;split at A<;>try trivial
 rename_i t n ps v;split at A<;>try trivial
 rename_i el ht;split at A<;>try trivial
 rename_i D;obtain⟨rfl,N⟩:=D;obtain⟨h,rfl⟩:∃ h,ps = #[(0,h)]:=by
  have j:ps.toList.length=1:=by simpa using uft List.length N
  match hp:ps.toList,j with
  |[(i,h)],_=>
   rw[hp]at N;simp at N;subst N;exact⟨h,by rw[<- uc7,hp]⟩
 have T:aE P w F (ap M γ) v (a.eval h):=by
  have j:(Op.buildSlice t 1 #[(0,h)]).operands.toList.map a.eval=[a.eval h]:=by simp[Op.operands]
  rw[j]at l;exact l.1
 obtain⟨u,w',γ',j,q,z,E⟩:=qbp G H hB p hd ht A T;exact ir (cL (S:=Instr.buildSlice t 1 #[(0,a.eval h)]) (by unfold execOp;rw[L];simp) j) q z E;rename_i t n0 c0 kn n kc c;obtain⟨⟨_,e1,_⟩,⟨_,e2,_⟩,_⟩:=l;obtain⟨u,w',γ',j,q,z,E⟩:=qto (kn:=kn) (kc:=kc) G H hB hd A R;exact ir (cL (S:=Instr.makeSlice t (a.eval n0) (a.eval c0)) (by unfold execOp;rw[L]) (by rw[e1,e2];exact j)) q z E;rename_i t h id sz i off;obtain⟨u,γ',j,q,z,E⟩:=qql G H p hd A R l.1;exact ir (cL (S:=Instr.loadAt t (a.eval h)) (by unfold execOp;rw[L]) j) q z E;rename_i t h v0 id sz i off k;obtain⟨j,w',q,z,E⟩:=zaw G H p A R l.1 l.2.1;exact TJ (S:=Instr.storeAt t (a.eval h) (a.eval v0)) (by unfold execOp;rw[L]) j q z E;rename_i g ts s k;split at A<;>try trivial
 rename_i t t' hts;split at A<;>try trivial
 rename_i htt;subst htt;have C:(Op.call ⟨.builtin .append,g,ts⟩).operands.toList.map a.eval=(g.map a.eval).toList:=by simp[Op.operands,Call.operands]
 rw[C]at l;obtain⟨v1,W,hv,hs,T⟩:∃ v1 W,g.map a.eval = #[v1,W]/\aE P w F (ap M γ) s v1/\aE P w F (ap M γ) (.c (.own k)) W:=by
  cases hl:(g.map a.eval).toList with
  |nil=>rw[hl]at l;exact l.elim
  |cons v r=>cases r with
   |nil=>rw[hl]at l;exact l.2.elim
   |cons W r=>cases r with
    |nil=>rw[hl]at l;exact⟨v,W,by rw[<- uc7,hl],l.1,l.2.1⟩
    |cons _ _=>rw[hl]at l;exact l.2.2.elim
 have hts':ts = #[t,t]:=by rw[<- uc7,hts]
 obtain⟨u,w',γ',q,z,E,h5⟩:=qaw (ty:=0) G H hB p hd A R hs T;refine ir ?_ z E h5;unfold execOp;rw[L];simp only[resolve,ues,ueu,ucm,invoke,hv,hts'];have hbb:∀ ty cs,builtin .append #[t,t] ty cs #[v1,W]=(do pure (.value (<- Builtin.append_ #[t,t] 0 #[v1,W])):Sem Next):=λty cs=>rfl;rw[hbb];simp[q];rename_i t;obtain⟨u,w',γ',j,q,z,E⟩:=qtq G H hB hd A;exact ir (cL (S:=Instr.makeMap t V) (by unfold execOp;rw[L];rfl) j) q z E;rename_i t h y0 id n;obtain⟨T,⟨_,hy,_⟩,_⟩:=l;obtain⟨j,u,q,z⟩:=qqn G p A T;rw[j];exact dl G H (cL (S:=Instr.lookup t (a.eval h) (a.eval y0) Y) (by unfold execOp;rw[L]) (by rw[hy];exact q)) z;rename_i t h y0 z0 id n v;obtain⟨T,⟨_,hy,hin⟩,hv,_⟩:=l;obtain⟨j,w',q,z,E⟩:=zcp G H p A R hin T hv;exact TJ (S:=Instr.mapUpdate t (a.eval h) (a.eval y0) (a.eval z0)) (by unfold execOp;rw[L]) j (by rw[hy];exact q) z E;rename_i t h v;obtain⟨j,u,q,z⟩:=qnn A l.1;rw[j];exact dl G H (cL (S:=Instr.makeInterface t (a.eval h)) (by unfold execOp;rw[L]) q) z;rename_i h xt ty ok es t x;obtain⟨j,u,q,z⟩:=qay (xt:=xt) A R l.1;rw[j];exact dl G H (cL (S:=Instr.typeAssert (a.eval h) xt ty ok) (by unfold execOp;rw[L]) q) z;rename_i f first cap id
 split at A<;>try trivial
 rename_i D;cases A;obtain⟨j,q⟩:=D;obtain⟨h,rfl⟩:∃ h,first = #[h]:=Array.size_eq_one_iff.1 j
 obtain rfl:=Array.eq_empty_of_size_eq_zero q;have C:(Op.makeFunc (.func f) #[h] #[]).operands.toList.map a.eval=[a.eval h]:=by simp[Op.operands]
 rw[C]at l;obtain⟨⟨_,b,e1,e2⟩,_⟩:=l;refine dl G H (cL (S:=Instr.makeFunc (.func f) ((#[h]:Array Operand).map a.eval) ((#[]:Array Operand).map a.eval)) (u:=.func (.func f) #[a.eval h] #[]) (by unfold execOp;rw[L]) (by simp[Instr.makeFunc])) ⟨rfl,b,e1,by rw[e2]⟩;rename_i f0 g ts fv args;have C:(Op.call ⟨.value f0,g,ts⟩).operands.toList.map a.eval=a.eval f0::(g.map a.eval).toList:=by simp[Op.operands,Call.operands]
 rw[C]at l;obtain⟨j,f,O,e1,e2,e3⟩:=qqm hΓ G H hB p A R l.1 l.2;rw[j];intro K Q hK;unfold Oper.wp;have hrun:(execOp a.eval o).run P w=.ok (.enter f (g.map a.eval++O)) w:=by
  unfold execOp;rw[L];simp[resolve,e1,Deferred.ofValue,invoke,e2]
 rw[hrun];show Calls P f (g.map a.eval++O) w _;rw[ubf]at e3;refine e3.mono λen w2 hp=>?_;obtain⟨u,rfl,s1,m1,r1⟩:=hp;exact hK u w2 F γ s1 m1 r1
def UU{a:String}{n:Bool}(h:JC P a ty=U (f,n))(ad:Addr)(d:Array Value):
  (n=Y->(callMethod (.iface ty (.pointer (U ad))) a d).run P w=(callFunc f (#[.pointer (U ad)]++d)).run P w) /\
  (n=Z->∀ u,w.cell? ad=U u->(callMethod (.iface ty (.pointer (U ad))) a d).run P w=(callFunc f (#[u]++d)).run P w):=by
 unfold JC at h;split at h<;>try trivial
 rename_i i el hi r;split at h<;>try trivial
 rename_i C e;split at h<;>try trivial
 rename_i o t p;split at h<;>try trivial
 rename_i l;obtain⟨l,m⟩:=l;simp at h;obtain⟨rfl,j⟩:=h;have g:C.path = #[]:=by simpa using l
 have z:P.types.size+Made.depth-1+1=P.types.size+Made.depth:=by unfold Made.depth;omega
 have key:∀ u,(method (P.types.size+Made.depth-1+1) ty (.pointer (U ad)) a).run P w=.ok (o,u) w->(callMethod (.iface ty (.pointer (U ad))) a d).run P w=(callFunc o (#[u]++d)).run P w:=λu q=>by
  rw[z]at q;simp only[callMethod,ues,run_program,ucm];rw[q];simp
 refine⟨λc=>key _ ?_,λc u y=>key u ?_⟩;have b:t=true:=by rw[c]at j;simpa using j
 subst b;simp[method,typeInfo,hi,e,g,p,follow,receiverAt,ud5 r,Place.get];have b:t=false:=by rw[c]at j;simpa using j
 subst b;obtain⟨_,v,x⟩:=m.resolve_left (by simp);obtain⟨D,k⟩:=uar.1 v;have A:(loadVar el ad).run P w=.ok u w:=by simp[loadVar,yT k,x,Sem.run,y]
 have B:∀ s:String,(Builtin.ssaWrapNilChk_ #[ty] ty #[.pointer (U ad),strVal "", strVal s]).run P w=.ok (.pointer (U ad)) w:=λs=>rfl;simp[method,typeInfo,hi,e,g,p,follow,receiverAt,ud5 r,Place.get,B,asAddr,A]
end
section
variable {P:Program} {B:Nat} {o:Oper} {a:Act} {w w':World} {F F':Nat->Prop} {γ γ':Nat->Value} {M m:aT} {R:Nat->Value->Prop} {Γ:Gm}
def WL{idx:List Nat}:{xs:List AV} -> {vs:List Value}->bj P w F R xs vs->∀ (q i:Nat) (x:AV) (v:Nat×Value),(idx.zip xs)[q]?= U (i,x)->(idx.zip vs)[q]?= U v->v.1=i/\aE P w F R x v.2:=by
 induction idx with
 |nil=>intro xs vs _ q i x v h;simp at h
 |cons k idx d=>
  intro xs vs c q i x v a b;cases xs with
  |nil=>simp at a
  |cons y xs=>cases vs with
   |nil=>exact c.elim
   |cons u vs=>cases q with
    |zero=>
     simp at a b;obtain⟨rfl,rfl⟩:=a;subst b;exact⟨rfl,c.1⟩
    |succ q=>exact d c.2 q i x v (by simpa using a) (by simpa using b)
def i7(P:Program)(w:World)(F:Nat->Prop)(R:Nat->Value->Prop)(b:Tmp->Value):AV->Value->Prop
 |.maybe g a v,u=>b g=.bool a->aE P w F R v u
 |v,u=>aE P w F R v u
def nV(P:Program)(w:World)(F:Nat->Prop)(R:Nat->Value->Prop)(b:Tmp->Value):List AV->List Value->Prop
 |[],[]=>True
 |a::r,v::s=>i7 P w F R b a v/\nV P w F R b r s
 |_,_=>False
def i7.plain{b:Tmp->Value}{x:AV}(h:i7 P w F R b x v)(a:fX x=Z):aE P w F R x v:=by
 cases x<;>first|exact h|simp[fX]at a
def nV.plain{b:Tmp->Value}:{xs:List AV} -> {vs:List Value}->nV P w F R b xs vs->xs.all fX=Z->bj P w F R xs vs
 |[],[],_,_=>trivial
 |x::r,v::s,h,a=>by
  simp only[uej,udc]at a;exact⟨h.1.plain a.1,nV.plain h.2 a.2⟩
 |[],_::_,h,_=>h.elim
 |_::_,[],h,_=>h.elim
def UL{c x:AC}{u:List (Nat×Ob)}(b:m d=V)(h:me m c=U (x,u))(M:aT):ax M u d=M d:=by
 unfold me at h;split at h;rename_i id;split at h<;>try trivial
 rename_i a;split at h<;>try trivial
 obtain⟨_,rfl⟩:=h;exact fa _ _ (λe=>by subst e;rw[b]at a;cases a);simp at h;obtain⟨_,rfl⟩:=h;rfl;simp at h;obtain⟨_,rfl⟩:=h;rfl
def UM(a:m d=V):{cs xs:List AC} -> {u:List (Nat×Ob)}->jr m cs=U (xs,u)->∀ M:aT,ax M u d=M d
 |[],xs,u,h,M=>by
  obtain⟨_,rfl⟩:=h;rfl
 |c::r,xs,u,h,M=>by
  simp only[jr]at h;split at h;rename_i b e;obtain⟨_,rfl⟩:=h;rw[gc,UM a e,UL a b];cases h
def qx4{x y:AV}{u:List (Nat×Ob)}(b:m d=V)(h:pD m x=U (y,u))(M:aT):ax M u d=M d:=by
 unfold pD at h;split at h<;>try trivial
 split at h<;>try trivial
 rename_i a;obtain⟨_,rfl⟩:=h;exact UL b a M;split at h<;>try trivial
 rename_i a;obtain⟨_,rfl⟩:=h;exact UM b a M
def UK(a:m d=V):{cs xs:List AV} -> {u:List (Nat×Ob)}->dK m cs=U (xs,u)->∀ M:aT,ax M u d=M d
 |[],xs,u,h,M=>by
  obtain⟨_,rfl⟩:=h;rfl
 |c::r,xs,u,h,M=>by
  simp only[dK]at h;split at h;rename_i b e;obtain⟨_,rfl⟩:=h;rw[gc,UK a e,qx4 a b];cases h
def qqk{c:AC}{tt:Ty}{l:List tt.den}(h:Jy c=U ⟨tt,l⟩)(a:bc P w F R c v):∃ A b,v=.slice A l.length b/\aA w F (.sl tt) l (λ_ u=>u=v):=by
 unfold Jy at h;split at h<;>try trivial
 cases h;obtain⟨A,c,d,_⟩:=id a;exact⟨A,c,d.symm,a⟩;cases h;obtain⟨A,d,a⟩:=a;exact⟨A,_,d,a⟩
def JU{x:Option Operand}{l:Option Int}{r d:List AV}{e:List Value}(h:uS x.isSome r=U (l,d))(c:bj P w F R r (x.toList.map a.eval++e)):
  (∃ k:IntKind,x.map a.eval=l.map (.int k))/\bj P w F R d e:=by
 rcases qve h c with ⟨b,rfl,rfl⟩|⟨b,k,n,v,j,rfl,f,g,i⟩
 cases x with
 |none=>exact⟨⟨.i64,rfl⟩,by simpa using c⟩
 |some x=>simp at b
 cases x with
 |none=>simp at b
 |some x=>
  obtain⟨rfl,rfl⟩:=f;exact⟨⟨k,by simp[g]⟩,i⟩
def qey{γ:Nat->Value}{m M:aT}{lo hi mx:Bool}{x:AV}{r:List AV}{e:Eff}(T:MemOK P B w F γ M)(hb:∀ b,F b->b<w.heap.size)(hB:B<=w.heap.size)(K:∀ i y,m i=U y->M i=U y)(hd:m d=V->M d=V)(h:Hn P d t lo hi mx x r m=U e)(hn:av e.need)(hx:aE P w F (ap M γ) x vx)(hr:bj P w F (ap M γ) r vs):
  lo=Y/\hi=Z/\mx=Y/\∃ vh u γ',vs=[vh]/\(Instr.sliceAt t vx V (U vh) V).run P w=.ok u w/\Step B w F γ M w F γ' (ax M e.wr)/\MemOK P B w F γ' (ax M e.wr)/\aE P w F (ap (ax M e.wr) γ') e.v u:=by
 unfold Hn at h;split at h<;>try trivial
 rename_i id k q;split at h<;>try trivial
 rename_i el ety tt l ht R W;split at h<;>try trivial
 rename_i O;cases h;obtain⟨n1,n2⟩:0<=q/\q<=l.length:=hn;obtain⟨c,O⟩:=O;obtain⟨ti,L⟩:=uar.1 O.1;cases vs with
 |nil=>exact hr.elim
 |cons vh vs=>
  cases vs with
  |cons _ _=>exact hr.2.elim
  |nil=>
   obtain⟨⟨_,rfl,_⟩,_⟩:=hr;have N:=K _ _ R;have C:=hd W;have hv:=ez N (by simp) hx.2;subst hv;obtain⟨xs,q1,q2,q3,q4⟩:=gg.of (T.ob id _ N) c;have n:(l.take q.toNat).length=q.toNat:=by simp;omega
   have s:=q1.1;have hle:q.toNat*tt.size<=l.length*tt.size:=ube _ (by omega);have z:bU w F tt (l.take q.toNat) (xs.take (q.toNat*tt.size)):=λi y hi=>by
    have Q:l[i]?= U y:=by
     rw[ub2]at hi;split at hi;exact hi;cases hi
    have S:i<q.toNat:=by
     rw[ub2]at hi;split at hi;assumption;cases hi
    refine(q3 i y Q).mono (λ_ h=>h) (λ_ _=>rfl) (λj u hj hu=>?_);have:i*tt.size+j<q.toNat*tt.size:=by
     have:(i+1)*tt.size<=q.toNat*tt.size:=ube _ S;rw[ufb]at this;omega
    rw[ub2,ufv this];exact hu
   refine⟨rfl,rfl,rfl,.int k q,?_⟩;rcases q1.2 with ⟨G,hz⟩|⟨g,a,cur,H,hg,D,hcap,E,hsz,A⟩
   have p:q.toNat=0:=by omega
   have f:(Instr.sliceAt t (γ id) V (U (.int k q)) V).run P w=.ok (.slice V 0 0) w:=by
    rw[G];have o:(Instr.sliceBounds Z 0 0 V (U (.int k q)) V).run P w=.ok (0,0,0) w:=by
     simp[Instr.sliceBounds,kY (y:=0) n1 (by omega),p]
    simp[Instr.sliceAt,Instr.slice,ud5 ht,o,gw L]
   obtain⟨s1,s2⟩:=CJ T hb hB N C (ub8 _ _) (by rw[n,p];exact ucs w B ety tt.size) (.inr (.inr rfl))
    (λi y hi=>by
     rw[p]at hi;simp at hi) c c
   exact⟨_,_,rfl,f,s1,s2,lP rfl⟩;have f:(Instr.sliceAt t (γ id) V (U (.int k q)) V).run P w=.ok (.slice (U ⟨g,0,V⟩) q.toNat a) w:=by
    rw[H];have o:(Instr.sliceBounds Z l.length a V (U (.int k q)) V).run P w=.ok (0,q.toNat,a) w:=by
     simp[Instr.sliceBounds,kY (y:=a) n1 (by omega)]
    simp only[Instr.sliceAt,Instr.slice,ud5 ht,o,gw L,ues,Result.andThen];simp[Addr.add]
   obtain⟨s1,s2⟩:=CJ T hb hB N C (ub8 _ _)
    (by
     rw[n];refine⟨by rw[uc5,s];omega,.inr ⟨g,a,cur,rfl,hg,D,by omega,E,hsz,?_⟩⟩;rw[<- A,ud8];congr 1;omega)
    (.inl (by rw[H];rfl)) z c c
   exact⟨_,_,rfl,f,s1,s2,lP rfl⟩
def S1:{vs:List AV} -> {b:List AC} -> {u:List (Nat×Ob)} -> {e:List Value}->lL vs=U (b,u)->bj P w F R vs e->u=[]/\bj P w F R (b.map .c) e
 |[],_,_,e,h,d=>by
  obtain⟨rfl,rfl⟩:=h;exact⟨rfl,d⟩
 |.c a::r,b,u,[],h,d=>d.elim
 |.c a::r,b,u,v::e,h,d=>by
  simp only[lL]at h;split at h<;>try trivial
  rename_i y _ f;cases h;exact⟨rfl,d.1,(S1 f d.2).2⟩
 |.dead::_,_,_,_,h,_=>by simp[lL]at h
 |.agg _::_,_,_,_,h,_=>by simp[lL]at h
 |.tup _::_,_,_,_,h,_=>by simp[lL]at h
 |.optr _ _ _ _::_,_,_,_,h,_=>by simp[lL]at h
 |.aptr _ _ _::_,_,_,_,h,_=>by simp[lL]at h
 |.maybe _ _ _::_,_,_,_,h,_=>by simp[lL]at h
def Vq{tt:Ty}:(n:Nat) -> {cs:List AC} -> {l:List tt.den} -> {g:Nat->Value->Prop}->se.splitN tt n cs=U l->aN P w F R cs g ->
  l.length=n/\∀ (i:Nat) (x:tt.den),l[i]?= U x->aA w F tt x (λj u=>g (i*tt.size+j) u)
 |0,cs,l,g,h,_=>by
  cases cs with
  |nil=>
   simp only[se.splitN,ucl]at h;subst h;exact⟨rfl,λi x a=>by simp at a⟩
  |cons _ _=>simp[se.splitN]at h
 |n+1,cs,l,g,h,c=>by
  simp only[se.splitN]at h;split at h<;>try trivial
  rename_i x a;split at h<;>try trivial
  rename_i m k;cases h;obtain⟨d,f⟩:=Vq n k (c.drop_ tt.size);refine⟨by simp[d],λi y b=>?_⟩;cases i with
  |zero=>
   simp at b;subst b;have:=(aA.dec tt a (c.take_ tt.size)).1;simpa using this
  |succ i=>
   have:=f i y (by simpa using b);have e:∀ j,tt.size+(i*tt.size+j)=(i+1)*tt.size+j:=λj=>by rw[ufb];omega
   simpa only[e]using this
def qz9{x:AV}{e:Eff}(r:MemOK P B w F γ M)(D:∀ b,F b->b<w.heap.size)(a:∀ i y,m i=U y->M i=U y)(h:se P t x m=U e)(G:aE P w F (ap M γ) x v):
  ∃ u F',(Instr.sliceAt t v V V V).run P w=.ok u w/\Step B w F γ M w F' γ (ax M e.wr)/\MemOK P B w F' γ (ax M e.wr)/\aE P w F' (ap (ax M e.wr) γ) e.v u:=by
 unfold se at h;split at h<;>try trivial
 rename_i n el id off H;split at h<;>try trivial
 rename_i i tt bt cs hi K c;split at h<;>try trivial
 rename_i cs' o;split at h<;>try trivial
 rename_i bf f;split at h<;>try trivial
 rename_i l E;split at h<;>try trivial
 rename_i S;cases h;obtain⟨F1,b,A,C,s1,Q,R⟩:=zqc r D a c o c;obtain⟨d,arr,s,N,T,_,_,_,_⟩:=lw r (a _ _ c) G.2;have g:d=b:=by rw[A]at s;cases s;rfl
 subst g;subst N;obtain⟨q,z⟩:=Vq n E (uc f R).2;have p:=gw (w:=w) hi;refine⟨.slice (U ⟨d,off,V⟩) n n,F1,?_,s1,Q,rfl,?_⟩;simp only[Instr.sliceAt,ues,ud5 H,ucm,Instr.sureAddr,ueu,Instr.sliceBounds,p,Nat.zero_mul];have:(⟨d,off,V⟩:Addr).add 0=⟨d,off,V⟩:=by simp[Addr.add]
 simp[this];refine⟨U ⟨d,off,V⟩,n,by rw[q],by rw[q];exact ue9 _,by unfold maxLen;omega,λk x O=>⟨⟨d,off,V⟩,rfl,C,?_⟩⟩;have:=z k x O;refine this.mono (λ_ h=>h) (λ_ _=>rfl) λj u _ L=>?_;rw[i8];exact L
def Ig{n:Int}:(arr:List MapEntry)->(es:List (Int×Nat))->(i:Nat)->arr.map (λe=>(e.key,e.val))=es.map (λx=>(Value.int .i64 x.1,Value.func (.func x.2) #[] #[])) ->
  ∃ j,Instr.findNow (.int .i64) (.int .i64 n) arr i=U ((es.find? (λx=>x.1==n)).map λx=>(j,Value.func (.func x.2) #[] #[]))
 |[],[],_,_=>⟨0,rfl⟩
 |[],_::_,_,h=>by simp at h
 |_::_,[],_,h=>by simp at h
 |e::arr,(k,f)::es,i,h=>by
  simp at h;obtain⟨⟨d,g⟩,l⟩:=h;simp only[Instr.findNow,d,Instr.sameNow];by_cases a:n=k;subst a;exact⟨i,by simp[g]⟩;obtain⟨j,m⟩:=Ig (n:=n) arr es (i+1) l;refine⟨j,?_⟩;have b:(n==k)=false:=by rw[ubw];exact a
  have c:(k==n)=false:=by rw[ubw];omega
  simp[b,c,m]
def qqo{f h:TypeId}{arr:Array MapEntry}{g r:Nat}{es:List (Int×Nat)}(k:P.underlying t=U (.map f h))(d:P.underlying f=U (.int .i64))(o:(zeroValue h).run P w=.ok .nilFunc w)(m:w.heap[r]?= U (.map arr g))(l:arr.toList.map (λe=>(e.key,e.val))=es.map (λx=>(Value.int .i64 x.1,Value.func (.func x.2) #[] #[])))(n:Int):
  (Instr.lookup t (.map (U r)) (.int .i64 n) Z).run P w=.ok (.tuple #[ie (es.find? (λx=>x.1==n)),.bool (es.find? (λx=>x.1==n)).isSome]) w:=by
 obtain⟨j,c⟩:=Ig arr.toList es 0 l;have a:(Instr.checkKey arr.isEmpty 10000 f (.int .i64 n)).run P w=.ok () w:=AZ d arr.isEmpty 9999 n;have b:(getObj r).run P w=.ok (.map arr g) w:=by simp[getObj,Sem.run,m]
 cases i:es.find? (λx=>x.1==n)with
 |none=>
  rw[i]at c;simp[Instr.lookup,ud5 k,b,a,Instr.findKey,ud5 d,c,o,ie]
 |some x=>
  rw[i]at c;simp[Instr.lookup,ud5 k,b,a,Instr.findKey,ud5 d,c,ie]
def qef(hΓ:kN P Γ){op:Op}{vs:List AV}{e:Eff}(ho:o.op=op)(hm:MemOK P B w F γ M)(hb:∀ b,F b->b<w.heap.size)(hB:B<=w.heap.size)(hsub:∀ i y,m i=some y->M i=some y)(hd:m d=none->M d=none)(hc:Hg P Γ d op vs m=some e)(hn:av e.need)(hr:bj P w F (ap M γ) vs (op.operands.toList.map a.eval)):sV P B o a w F γ M e.v e.wr:=by
 unfold Hg at hc;split at hc
 ·
  rename_i x0 x;cases hc;exact dl hm hb (by unfold execOp;rw[ho];rfl) hr.1
 ·
  rename_i x0 x;cases hc;exact dl hm hb (by unfold execOp;rw[ho];rfl) hr.1
 ·
  rename_i el;split at hc<;>try trivial
  rename_i z hz hmd;split at hc<;>try trivial
  rename_i cs hcs;cases hc;obtain⟨z1,z2,_⟩:=o6 hcs (tf (P:=P) (w:=w) (F:=F) (R:=ap M γ) z);obtain⟨s1,s2⟩:=SZ (ty:=el) hm hb hB (hd hmd) z1 z2;have hzv:(zeroValue el).run P w=.ok z w:=by
   cases hi:P.info? el with
   |none=>simp[hi]at hz
   |some i=>simp[hi]at hz;simp[zeroValue,typeInfo,hi,hz]
  refine ir (cL (S:=Instr.alloc el true (.tuple #[])) (u:=.pointer (some ⟨w.heap.size,0,none⟩)) (w':=w.alloc (.cells z.cells el)) (by unfold execOp;rw[ho]) ?_) s1 s2 Ul;simp[Instr.alloc,hzv,newVar,newRow,newObj,Sem.run]
 ·
  rename_i el x0 x;split at hc<;>try trivial
  rename_i cs hcs hmd;cases hc;obtain⟨z1,z2,_⟩:=o6 hcs hr.1;obtain⟨s1,s2⟩:=SZ (ty:=el) hm hb hB (hd hmd) z1 z2;refine ir (cL (S:=Instr.box el (a.eval x0)) (u:=.pointer (some ⟨w.heap.size,0,none⟩)) (w':=w.alloc (.cells (a.eval x0).cells el)) (by unfold execOp;rw[ho]) ?_) s1 s2 Ul;simp[Instr.box,newVar,newRow,newObj,Sem.run]
 ·
  rename_i xs t ps;split at hc<;>try trivial
  rename_i v hv;cases hc;have hops:(Op.build t ps).operands.toList.map a.eval=ps.toList.map (λp=>a.eval p.2):=by simp[Op.operands]
  rw[hops]at hr;have hz:=WL (idx:=ps.toList.map (·.1)) hr;have he:((ps.toList.map (·.1)).zip (ps.toList.map λp=>a.eval p.2))=ps.toList.map λp=>(p.1,a.eval p.2):=by
   rw[List.zip_map']
  rw[he]at hz;have hlen:=hr.length;obtain⟨u,h1,h2⟩:=qbq (ps:=ps.map λp=>(p.1,a.eval p.2)) hv (by simp at hlen |-;omega) (λk i x v h1 h2=>hz k i x v h1 (by simpa using h2));refine dl hm hb (cL (S:=Instr.build t (ps.map λp=>(p.1,a.eval p.2))) ?_ h1) h2;unfold execOp;rw[ho]
 ·
  rename_i xs t n ps;split at hc<;>try trivial
  rename_i el ht hmd;split at hc<;>try trivial
  rename_i i tt xs' u hi htt hrs;split at hc<;>try trivial
  rename_i hcond;obtain⟨hlt,c1,c2,c3,c4,c5⟩:=hcond;obtain⟨z,hz,hzs⟩:∃ z,i.zero=some z/\z.cells.size=tt.size:=by
   cases hz:i.zero with
   |none=>simp[hz]at c5
   |some z=>exact⟨z,rfl,by simpa[hz]using c5⟩
  split at hc<;>try trivial
  rename_i l hl;split at hc<;>try trivial
  rename_i hln;cases hc;have hops:(Op.buildSlice t n ps).operands.toList.map a.eval=ps.toList.map (λp=>a.eval p.2):=by simp[Op.operands]
  rw[hops]at hr;obtain⟨F1,s1,m1,t1,r1⟩:=iy hm hb (cX.of hsub) hrs hr;have hz':=WL (idx:=ps.toList.map (·.1)) r1;have he:((ps.toList.map (·.1)).zip (ps.toList.map λp=>a.eval p.2))=ps.toList.map λp=>(p.1,a.eval p.2):=by
   rw[List.zip_map']
  rw[he]at hz';have hlen:=r1.length;have hMd:ax M u d=none:=by rw[UK hmd hrs];exact hd hmd
  obtain⟨v,w',γ',h1,s2,m2,r2⟩:=qbo (ps:=ps.map λp=>(p.1,a.eval p.2)) m1 s1.bd hB hMd ht hi hz c1 hzs c2 c3 hl hln (by simp at hlen |-;omega) (λk i x v h1 h2=>hz' k i x v h1 (by simpa using h2)) hlt;refine ir (cL (S:=Instr.buildSlice t n (ps.map λp=>(p.1,a.eval p.2))) (w':=w') ?_ h1) (F':=F1) (γ':=γ') ?_ ?_ ?_
  ·unfold execOp;rw[ho]
  ·rw[gc];exact s1.trans s2
  ·rw[gc];exact m2
  ·rw[gc];exact r2
 ·
  rename_i t x0 x;obtain⟨h1,u,h2,h3⟩:=S2 hm hsub hc hn hr.1;rw[h1];exact dl hm hb (cL (S:=Instr.loadAt t (a.eval x0)) (by unfold execOp;rw[ho]) h2) h3
 ·
  rename_i t x0 v0 x v;obtain⟨h1,w',F1,h2,h3,h4⟩:=zax hm hb hsub hc hn hr.1 hr.2.1;rw[h1];intro K Q hK;unfold Oper.wp;have:(execOp a.eval o).run P w=.ok .skip w':=by
   unfold execOp;rw[ho];simp[h2]
  rw[this];exact hK undef w' F1 γ h3 h4 trivial
 ·
  rename_i x0 x;split at hc<;>try trivial
  ·rename_i id off;cases hc;obtain⟨⟨h1,b,h2,h3⟩,_⟩:=hr;refine dl hm hb (u:=a.eval x0) ?_ ⟨h1,b,h2,h3⟩;unfold execOp;rw[ho];simp only[h3];rfl
  ·rename_i cs;cases hc;obtain⟨⟨h1,ad,h2,h3⟩,_⟩:=hr;refine dl hm hb (u:=a.eval x0) ?_ ⟨h1,ad,h2,h3⟩;unfold execOp;rw[ho];simp only[h2];rfl
 ·
  rename_i bo t x0 y0 yt x y;split at hc
  ·rename_i v hv;cases hc;have key:ya P t=true->∀ es (t0:Ty) (z:Int×t0.den) (vx:Value),bc P w F (ap M γ) (.ic es t0 z) vx->∀ q:BinOp,q=.eql\/q=.neq->(do eqGuard q t x0 (.const .nilIface) vx .nilIface;binOp q t vx .nilIface:Sem Value).run P w=.ok (.bool (if q=.eql then (cD es z.1).isNone else !(cD es z.1).isNone)) w:=λhu es t0 z vx hx q hq=>by
    obtain⟨ms,hms⟩:=qnk hu;rcases Cj hx with ⟨ty,u,i1,i2,_⟩|⟨i1,i2⟩
    ·subst i2;have he:(Op.equalIn (9999+1) t (.iface ty u) .nilIface).run P w=.ok false w:=qnl hms;have he2:Op.equal t (.iface ty u) .nilIface=Op.equalIn (9999+1) t (.iface ty u) .nilIface:=rfl;rcases hq with rfl|rfl
     ·have h1:binOp .eql t (.iface ty u) .nilIface=(do pure (.bool (<- Op.equal t (.iface ty u) .nilIface))):=rfl;rw[h1,he2];simp[eqGuard,he,i1]
     ·have h1:binOp .neq t (.iface ty u) .nilIface=(do pure (.bool (!(<- Op.equal t (.iface ty u) .nilIface)))):=rfl;rw[h1,he2];simp[eqGuard,he,i1]
    ·subst i2;have he:(Op.equalIn (9999+1) t .nilIface .nilIface).run P w=.ok true w:=qnm hms;have he2:Op.equal t .nilIface .nilIface=Op.equalIn (9999+1) t .nilIface .nilIface:=rfl;rcases hq with rfl|rfl
     ·have h1:binOp .eql t .nilIface .nilIface=(do pure (.bool (<- Op.equal t .nilIface .nilIface))):=rfl;rw[h1,he2];simp[eqGuard,he,i1]
     ·have h1:binOp .neq t .nilIface .nilIface=(do pure (.bool (!(<- Op.equal t .nilIface .nilIface)))):=rfl;rw[h1,he2];simp[eqGuard,he,i1]
   unfold Tc at hv;split at hv<;>try trivial
   ·rename_i es t0 z;split at hv<;>try trivial
    rename_i hui;cases hv;refine dl hm hb (cL (S:=do eqGuard .eql t x0 (.const .nilIface) (a.eval x0) .nilIface;binOp .eql t (a.eval x0) .nilIface) (by unfold execOp;rw[ho];rfl) (key hui es t0 z _ hr.1.2 .eql (.inl rfl))) ⟨rfl,rfl⟩
   ·rename_i es t0 z;split at hv<;>try trivial
    rename_i hui;cases hv;refine dl hm hb (cL (S:=do eqGuard .neq t x0 (.const .nilIface) (a.eval x0) .nilIface;binOp .neq t (a.eval x0) .nilIface) (by unfold execOp;rw[ho];rfl) (key hui es t0 z _ hr.1.2 .neq (.inr rfl))) ⟨rfl,rfl⟩
  split at hc<;>try trivial
  rename_i c n hcb;cases hc;obtain⟨u,h1,h2,h3⟩:=qbm hcb hn hr.1 hr.2.1 x0 y0;exact dl hm hb (cL (S:=do eqGuard bo t x0 y0 (a.eval x0) (a.eval y0);binOp bo t (a.eval x0) (a.eval y0)) (by unfold execOp;rw[ho]) h1) ⟨h2,h3⟩
 ·
  rename_i uo t x0 k n;split at hc<;>try trivial
  cases hc;obtain⟨⟨_,h1,h2⟩,_⟩:=hr;refine dl hm hb (cL (S:=Op.unary .neg (a.eval x0)) (u:=.int k (k.wrap (0-n))) (by unfold execOp;rw[ho]) ?_) ⟨rfl,rfl,gd _ _⟩;rw[h1];simp[Op.unary,Op.intArith]
 ·
  rename_i uo t x0 bb;split at hc<;>try trivial
  cases hc;obtain⟨⟨_,h1⟩,_⟩:=hr;simp only[bc]at h1;refine dl hm hb (cL (S:=Op.unary .not (a.eval x0)) (u:=.bool (!bb)) (by unfold execOp;rw[ho]) ?_) ⟨rfl,rfl⟩;rw[h1];simp[Op.unary]
 ·
  rename_i s t x0 k0 n;split at hc<;>try trivial
  rename_i ds k hs ht;cases hc;obtain⟨⟨_,h1,h2⟩,_⟩:=hr;refine dl hm hb (cL (S:=convert s t (a.eval x0)) (u:=.int k (k.wrap n)) (by unfold execOp;rw[ho]) ?_) ⟨rfl,rfl,gd _ _⟩;rw[h1];simp[convert,ud5 hs,ud5 ht,Conv.intToInt]
 ·
  rename_i t n0 c0 k n k' c;obtain⟨⟨_,h1,_⟩,⟨_,h2,_⟩,_⟩:=hr;obtain⟨u,w',γ',e1,e2,e3,e4⟩:=qtp (kn:=k) (kc:=k') hm hb hB hd hc hn;refine ir (cL (S:=Instr.makeSlice t (a.eval n0) (a.eval c0)) (by unfold execOp;rw[ho]) ?_) e2 e3 e4;rw[h1,h2];exact e1
 ·
  rename_i t x0 lo hi mx x r;split at hc
  ·rename_i e' hcut;cases hc;have hops:(Op.slice t x0 lo hi mx).operands.toList.map a.eval=a.eval x0::(lo.toList.map a.eval++(hi.toList.map a.eval++(mx.toList.map a.eval++[]))):=by simp[Op.operands]
   rw[hops]at hr;obtain⟨h1,h2,h3,vh,u,γ',h4,h5,h6,h7,h8⟩:=qey hm hb hB hsub hd hcut hn hr.1 hr.2;cases lo with
   |some _=>cases h1
   |none=>
    cases mx with
    |some _=>cases h3
    |none=>
     cases hi with
     |none=>cases h2
     |some hh=>
      simp only[Option.toList,List.map_nil,uek,udm,udr,udq,and_true]at h4;refine ir (cL (S:=Instr.sliceAt t (a.eval x0) none (some (a.eval hh)) none) (w':=w) (by unfold execOp;rw[ho];rfl) ?_) h6 h7 h8;rw[h4];exact h5
  split at hc
  ·rename_i e' hsp;cases hc;split at hsp<;>try trivial
   rename_i hno;cases lo with
   |some _=>cases hno.1
   |none=>
    cases hi with
    |some _=>cases hno.2.1
    |none=>
     cases mx with
     |some _=>cases hno.2.2
     |none=>
      obtain⟨u,F1,e1,e2,e3,e4⟩:=qz9 hm hb hsub hsp hr.1;exact ir (cL (S:=Instr.sliceAt t (a.eval x0) none none none) (w':=w) (by unfold execOp;rw[ho];rfl) e1) e2 e3 e4
  split at hc<;>try trivial
  rename_i el x' u l r1 ht hrs hlo;split at hc<;>try trivial
  rename_i h r2 hhi;split at hc<;>try trivial
  rename_i k hmx;split at hc<;>try trivial
  rename_i cc hne;split at hc<;>try trivial
  rename_i tt y hly;split at hc<;>try trivial
  rename_i hcond;obtain⟨ti,hti⟩:=uar.1 hcond.1;split at hc<;>try trivial
  rename_i z n hsl;cases hc;have hops:(Op.slice t x0 lo hi mx).operands.toList.map a.eval=a.eval x0::(lo.toList.map a.eval++(hi.toList.map a.eval++(mx.toList.map a.eval++[]))):=by simp[Op.operands]
  rw[hops]at hr;obtain⟨F1,s1,m1,t1,r1⟩:=UJ hm hb (cX.of hsub) hrs hr.1;obtain⟨⟨kl,q1⟩,hr2⟩:=JU hlo hr.2;obtain⟨⟨kh,q2⟩,hr3⟩:=JU hhi hr2;obtain⟨⟨kk,q3⟩,hr4⟩:=JU hmx hr3;obtain⟨A,cap,hv,hrep⟩:=qqk hly r1.2;rw[hv]at hrep;obtain⟨v,e1,e2,e3⟩:=qz8 (P:=P) (w:=w) (F:=F1) (R:=ap (ax M u) γ) (kl:=kl) (kh:=kh) (kk:=kk) ht hti hcond.2 hsl hn hrep;refine ir (cL (S:=Instr.sliceAt t (a.eval x0) (lo.map a.eval) (hi.map a.eval) (mx.map a.eval)) (w':=w) (by unfold execOp;rw[ho]) ?_) s1 m1 ⟨e2,e3⟩;rw[hv,q1,q2,q3];exact e1
 ·
  rename_i s x0 f x;split at hc<;>try trivial
  rename_i v hv;cases hc;obtain⟨u,h1,h2⟩:=qkn hv hr.1;exact dl hm hb (cL (S:=Instr.fieldAt s (a.eval x0) f) (by unfold execOp;rw[ho]) h1) h2
 ·
  rename_i s x0 f cs;split at hc<;>try trivial
  rename_i fd hfd;split at hc<;>try trivial
  rename_i hcond;split at hc<;>try trivial
  rename_i l hl;split at hc<;>try trivial
  rename_i v hv;cases hc;obtain⟨u,h1,h2⟩:=qko hfd hcond hl hv hr.1;exact dl hm hb (cL (S:=Instr.field s (a.eval x0) f) (by unfold execOp;rw[ho]) h1) h2
 ·
  rename_i t x0 i0 x k i;obtain⟨hx,⟨_,h2,_⟩,_⟩:=hr;obtain⟨h1,u,h3,h4⟩:=qnq (k:=k) hm hsub hc hn hx;rw[h1];refine dl hm hb (cL (S:=Instr.indexAt t (a.eval x0) (a.eval i0)) (by unfold execOp;rw[ho]) ?_) h4;rw[h2];exact h3
 ·
  rename_i t x0 i0 x k i;obtain⟨hx,⟨_,h2,_⟩,_⟩:=hr;obtain⟨h1,u,h3,h4⟩:=qnp (k:=k) hc hn hx;rw[h1];refine dl hm hb (cL (S:=Instr.index t (a.eval x0) (a.eval i0)) (by unfold execOp;rw[ho]) ?_) h4;rw[h2];exact h3
 ·
  rename_i t x0 y0 es n;split at hc<;>try trivial
  rename_i kt et ht;split at hc<;>try trivial
  rename_i hk hz;cases hc;obtain⟨⟨_,hx⟩,⟨_,hy,_⟩,_⟩:=hr;simp only[bc]at hx hy;obtain⟨r,arr,ck,e1,e2,e3,e4⟩:=hx;have hzv:(zeroValue et).run P w=.ok .nilFunc w:=by
   cases hi:P.info? et with
   |none=>simp[hi]at hz
   |some i=>simp[hi]at hz;simp[zeroValue,typeInfo,hi,hz]
  have hrun:=qqo (w:=w) ht hk hzv e3 e4 n;refine dl hm hb (cL (S:=Instr.lookup t (a.eval x0) (a.eval y0) true) (by unfold execOp;rw[ho]) (by rw[e1,hy];exact hrun)) ?_;refine⟨_,rfl,rfl,⟨ie (es.find? (λx=>x.1==n)),by simp,?_,?_⟩,⟨_,rfl,rfl,rfl⟩,uT⟩
  ·cases es.find? (λx=>x.1==n)<;>rfl
  ·simp only[bc]
 ·
  rename_i x0 i xs;split at hc<;>try trivial
  rename_i v hv;cases hc;obtain⟨⟨arr,h1,h2,h3⟩,_⟩:=hr;have hat:∀ (xs:List AV) (g:Nat->Value->Prop) (i:Nat) (v:AV),ln P w F (ap M γ) xs g->xs[i]?= some v->∃ u,g i u/\aE P w F (ap M γ) v u:=by
   intro xs
   induction xs with
   |nil=>intro g i v _ h;simp at h
   |cons y ys ih=>
    intro g i v h hi;cases i with
    |zero=>simp at hi;subst hi;exact h.1
    |succ i=>exact ih _ i v h.2 (by simpa using hi)
  obtain⟨u,h4,h5⟩:=hat xs _ i v h3 hv;refine dl hm hb (cL (S:=Instr.extract (a.eval x0) i) (by unfold execOp;rw[ho]) ?_) h5;rw[h1];simp[Instr.extract,h4]
 ·
  rename_i x0 xt ty es t x;split at hc<;>try trivial
  rename_i fs hu;split at hc<;>try trivial
  rename_i hz;cases hc;obtain⟨z,hzv⟩:∃ z,(zeroValue ty).run P w=.ok z w:=by
   cases hi:P.info? ty with
   |none=>simp[hi]at hz
   |some i=>
    cases hz2:i.zero with
    |none=>simp[hi,hz2]at hz
    |some z=>exact⟨z,by simp[zeroValue,typeInfo,hi,hz2]⟩
  have hx:=hr.1.2;rcases Cj hx with ⟨ty',u,i1,i2,_⟩|⟨i1,i2⟩
  ·by_cases he:ty'=ty
   ·subst he;refine dl hm hb (cL (S:=Instr.typeAssert (a.eval x0) xt ty' true) (u:=.tuple #[u,.bool true]) (by unfold execOp;rw[ho]) ?_) ?_
    ·rw[i2];simp[Instr.typeAssert,ud5 hu]
    ·refine⟨_,rfl,rfl,⟨u,rfl,uT⟩,⟨_,rfl,rfl,?_⟩,uT⟩;simp[bc,i1]
   ·refine dl hm hb (cL (S:=Instr.typeAssert (a.eval x0) xt ty true) (u:=.tuple #[z,.bool false]) (by unfold execOp;rw[ho]) ?_) ?_
    ·rw[i2];simp[Instr.typeAssert,ud5 hu,he,hzv]
    ·refine⟨_,rfl,rfl,⟨z,rfl,uT⟩,⟨_,rfl,rfl,?_⟩,uT⟩;simp[bc,i1,he]
  ·refine dl hm hb (cL (S:=Instr.typeAssert (a.eval x0) xt ty true) (u:=.tuple #[z,.bool false]) (by unfold execOp;rw[ho]) ?_) ?_
   ·rw[i2];simp[Instr.typeAssert,ud5 hu,hzv]
   ·refine⟨_,rfl,rfl,⟨z,rfl,uT⟩,⟨_,rfl,rfl,?_⟩,uT⟩;simp[bc,i1]
 ·
  rename_i xs f first cap
  split at hc<;>try trivial
  rename_i hf;split at hc<;>try trivial
  rename_i caps u hk;cases hc;have hfirst:first = #[]:=Array.eq_empty_of_size_eq_zero hf
  subst hfirst;have hops:(Op.makeFunc (.func f) #[] cap).operands.toList.map a.eval=(cap.map a.eval).toList:=by simp[Op.operands]
  rw[hops]at hr;obtain⟨F1,s1,m1,r1⟩:∃ F1,Step B w F γ M w F1 γ (ax M u)/\MemOK P B w F1 γ (ax M u)/\bj P w F1 (ap (ax M u) γ) (caps.map .c) (cap.map a.eval).toList:=by
   split at hk
   ·exact D6 hm hb hsub hk hr
   ·obtain⟨rfl,h2⟩:=S1 hk hr;exact⟨F,Step.refl hb,hm,h2⟩
  obtain⟨l1,l2⟩:=qc4 r1;refine ir (cL (S:=Instr.makeFunc (.func f) ((#[]:Array Operand).map a.eval) (cap.map a.eval)) (u:=.func (.func f) #[] (cap.map a.eval)) (w':=w) (by unfold execOp;rw[ho]) ?_) s1 m1 ?_
  ·simp[Instr.makeFunc]
  ·exact⟨rfl,cap.map a.eval,rfl,by simpa using l1,by simpa using l2⟩
 ·
  rename_i xs bb cargs ts;have hops:(Op.call ⟨.builtin bb,cargs,ts⟩).operands.toList.map a.eval=(cargs.map a.eval).toList:=by simp[Op.operands,Call.operands]
  rw[hops]at hr;have hex:∀ (S:Sem Value) (u:Value) (w':World),(∀ (ty:TypeId) (cs:Array Bool),builtin bb ts ty cs (cargs.map a.eval)=(do pure (.value (<- S)):Sem Next))->S.run P w=.ok u w'->(execOp a.eval o).run P w=.ok (.value u) w':=by
   intro S u w' h1 h2;unfold execOp;rw[ho];simp[resolve,invoke,h1,h2]
  unfold O8 at hc;split at hc<;>try trivial
  ·rename_i t x hts;have hargs:∃ v,cargs.map a.eval = #[v]/\aE P w F (ap M γ) x v:=by
    cases hl:(cargs.map a.eval).toList with
    |nil=>rw[hl]at hr;exact hr.elim
    |cons v r=>cases r with
     |nil=>rw[hl]at hr;exact⟨v,by rw[<- uc7,hl],hr.1⟩
     |cons _ _=>rw[hl]at hr;exact hr.2.elim
   obtain⟨v,hv,hx⟩:=hargs;have hts':ts = #[t]:=by rw[<- uc7,hts]
   obtain⟨h1,u,h2,h3⟩:=qqi hm hsub hc hx o.type;rw[h1];refine dl hm hb (hex (Builtin.len_ #[t] 0 #[v]) u w (λty cs=>?_) ?_) h3
   ·rw[hv,hts'];rfl
   ·exact h2
  ·rename_i t t' s x hts;split at hc<;>try trivial
   rename_i htt;subst htt;have hargs:∃ v1 v2,cargs.map a.eval = #[v1,v2]/\aE P w F (ap M γ) s v1/\aE P w F (ap M γ) x v2:=by
    cases hl:(cargs.map a.eval).toList with
    |nil=>rw[hl]at hr;exact hr.elim
    |cons v r=>cases r with
     |nil=>rw[hl]at hr;exact hr.2.elim
     |cons v2 r=>cases r with
      |nil=>rw[hl]at hr;exact⟨v,v2,by rw[<- uc7,hl],hr.1,hr.2.1⟩
      |cons _ _=>rw[hl]at hr;exact hr.2.2.elim
   obtain⟨v1,v2,hv,hs,hx⟩:=hargs;have hts':ts = #[t,t]:=by rw[<- uc7,hts]
   obtain⟨u,w',γ',h2,h3,h4,h5⟩:=qax (ty:=0) hm hb hB hsub hd hc hn hs hx;refine ir (hex (Builtin.append_ #[t,t] 0 #[v1,v2]) u w' (λty cs=>?_) h2) h3 h4 h5;rw[hv,hts'];rfl
  ·rename_i k n r;split at hc<;>try trivial
   rename_i y hy;cases hc;cases hl:(cargs.map a.eval).toList with
   |nil=>rw[hl]at hr;exact hr.elim
   |cons v r0=>
    rw[hl]at hr;obtain⟨⟨_,rfl,hk⟩,hr⟩:=hr;obtain⟨h1,h2⟩:=ST hy hk hr;refine dl hm hb (hex (Builtin.min_ ts 0 (cargs.map a.eval)) (.int k y) w (λty cs=>rfl) ?_) ⟨rfl,rfl,h2⟩;simp only[Builtin.min_,hl];exact h1
  ·rename_i k n r;split at hc<;>try trivial
   rename_i y hy;cases hc;cases hl:(cargs.map a.eval).toList with
   |nil=>rw[hl]at hr;exact hr.elim
   |cons v r0=>
    rw[hl]at hr;obtain⟨⟨_,rfl,hk⟩,hr⟩:=hr;obtain⟨h1,h2⟩:=SN hy hk hr;refine dl hm hb (hex (Builtin.max_ ts 0 (cargs.map a.eval)) (.int k y) w (λty cs=>rfl) ?_) ⟨rfl,rfl,h2⟩;simp only[Builtin.max_,hl];exact h1
 ·
  rename_i recv name cargs ts es t x args;split at hc<;>try trivial
  rename_i args' u fs hrs hfs;split at hc<;>try trivial
  rename_i rs y n hv;cases hc;have hops:(Op.call ⟨.invoke recv name,cargs,ts⟩).operands.toList.map a.eval=a.eval recv::(cargs.map a.eval).toList:=by simp[Op.operands,Call.operands]
  rw[hops]at hr;obtain⟨F1,s1,m1,t1,r1⟩:=iy hm hb (cX.of hsub) hrs hr.2;have hx:=hr.1.2;rcases Cj hx with ⟨ty,v0,i1,i2,i3⟩|⟨i1,i2⟩
  ·have hrx:aE P w F1 (ap (ax M u) γ) (dE t x.2) v0:=fT (i3.mono s1.hF (λ_ _=>rfl));obtain⟨f,e1,e2,e3⟩:=GR hΓ (k:=x.1) s1.bd (vs:=v0::(cargs.map a.eval).toList) (args:=dE t x.2::args') ⟨hrx,r1⟩ hv hn;obtain⟨p,hp,hpf⟩:∃ p,fs.find? (λx'=>x'.1==x.1)=some p/\p.2=f:=by
    cases hq:fs.find? (λx'=>x'.1==x.1)with
    |none=>rw[hq]at e1;simp[ie]at e1
    |some p=>rw[hq]at e1;simp[ie]at e1;exact⟨p,rfl,e1⟩
   subst hpf;obtain⟨ty',j1,j2⟩:=IN hfs hp;rw[i1]at j1;cases j1;intro K Q hK;unfold Oper.wp;have q1:(#[Value.iface ty v0]++Array.map a.eval cargs)[0]?= some (.iface ty v0):=by simp[Array.getElem?_append]
   have q2:(Array.map a.eval cargs).extract 0 cargs.size=Array.map a.eval cargs:=by
    have:cargs.size=(Array.map a.eval cargs).size:=by simp
    rw[this];exact Array.extract_size
   have hrun:(execOp a.eval o).run P w=.ok (.enter p.2 (#[v0]++cargs.map a.eval)) w:=by
    unfold execOp;rw[ho];simp only[resolve,ues,ueu,ucm,invoke,i2];rw[q1];have q3:(#[Value.iface ty v0]++Array.map a.eval cargs).extract 1 (#[Value.iface ty v0]++Array.map a.eval cargs).size=Array.map a.eval cargs:=by simp[q2]
    simp only[q3];rw[qya j2,e2]
   rw[hrun];show Calls P p.2 (#[v0]++cargs.map a.eval) w _;have du:(v0::(cargs.map a.eval).toList).toArray = #[v0]++cargs.map a.eval:=by simp
   rw[du]at e3;refine e3.mono λen w2 hp=>?_;obtain⟨v2,F2,rfl,hbel,hF2,hF2',hrep⟩:=hp;obtain⟨s2,m2⟩:=Step.below m1 hB s1.bd hbel hF2 hF2';exact hK v2 w2 F2 γ (s1.trans s2) m2 (tN hrep)
  ·obtain⟨p,hp⟩:=O9 hv hn;obtain⟨ty',j1,_⟩:=IN hfs hp;rw[i1]at j1;cases j1
 ·
  rename_i f0 cargs ts es n id args;split at hc<;>try trivial
  rename_i ety cs hid;split at hc<;>try trivial
  rename_i T z ns hu;cases hc;have hops:(Op.call ⟨.value f0,cargs,ts⟩).operands.toList.map a.eval=a.eval f0::(cargs.map a.eval).toList:=by simp[Op.operands,Call.operands]
  rw[hops]at hr
  match hca:(cargs.map a.eval).toList,hr with
  |[],hr=>exact hr.2.elim
  |vp::vs,⟨⟨_,hf⟩,⟨_,hp⟩,hvs⟩=>
   have hf:a.eval f0=ie (es.find? (λx=>x.1==n)):=hf;obtain⟨b,arr,q1,rfl,q3,q4,q5,q6,q7⟩:=lw hm (hsub _ _ hid) hp;have hone:∀ u∈arr,u.oneCell'=true:=λu hu=>by
    obtain⟨j,hj,rfl⟩:=Array.getElem_of_mem hu;obtain⟨u',z1,z2,_⟩:=q7.at_ (j:=j) (c:=cs[j]'(by omega)) (uaq _);rw[uam hj]at z1;cases z1;exact z2
   obtain⟨hl,f,e1,e2,e3⟩:=Ws hΓ q3 q6 hone q7 hvs hu hn;intro K Q hK;unfold Oper.wp;have hrun:(execOp a.eval o).run P w=.ok (.enter f (cargs.map a.eval)) w:=by
    unfold execOp;rw[ho];simp[resolve,hf,e1,Deferred.ofValue,invoke,e2]
   rw[hrun];show Calls P f (cargs.map a.eval) w _;have du:(Value.pointer (some ⟨b,0,none⟩)::vs).toArray=cargs.map a.eval:=by rw[<- hca]
   rw[du]at e3;refine e3.mono λen w2 hp2=>?_;obtain⟨u,nv,rfl,r1,rfl,r2⟩:=hp2;have hrep:aN P w F (ap M γ) (enc T z) (λj u=>(cF arr 0 nv)[j]?= some u):=by
    refine(aA.enc T z r2).turn λj u hj hu=>?_;rw[fl]at hj;have:=yx (arr:=arr) (off:=0) (vs:=nv) (j:=j) (by omega) (by omega);rw[uex]at this;rw[this];exact hu
   obtain⟨s1,m1⟩:=pJ hm hb (hsub _ _ hid) q1 q3 q4 q5 (by omega) (by rw[fl];omega) hrep;have hov:cF arr 0 nv=nv.toArray:=by
    have:nv.length=arr.size:=by omega
    simp[cF,this]
   rw[hov]at s1 m1;exact hK u _ F γ s1 m1 trivial
 ·
  rename_i f0 cargs ts fv args _;split at hc
  ·rename_i rw0 hrow;have hops:(Op.call ⟨.value f0,cargs,ts⟩).operands.toList.map a.eval=a.eval f0::(cargs.map a.eval).toList:=by simp[Op.operands,Call.operands]
   rw[hops]at hr;unfold UC at hrow;split at hrow<;>try trivial
   rename_i f1 _;obtain⟨_,arr,e1,e2,_⟩:=hr.1;have e3:arr = #[]:=Array.eq_empty_of_size_eq_zero e2;subst e3;obtain⟨hen,hcalls⟩:=qx1 (hΓ.2 _ _ hrow) hm hb hB hsub hd hc hn hr.2;intro K Q hK;unfold Oper.wp;have hrun:(execOp a.eval o).run P w=.ok (.enter f1 (cargs.map a.eval)) w:=by
    unfold execOp;rw[ho];simp[resolve,e1,Deferred.ofValue,invoke,hen]
   rw[hrun];show Calls P f1 (cargs.map a.eval) w _;rw[ubf]at hcalls;refine hcalls.mono λen w2 hp=>?_;obtain⟨u,γ',rfl,s1,m1,r1⟩:=hp;exact hK u w2 F γ' s1 m1 r1
  split at hc<;>try trivial
  rename_i args' u hrs;split at hc<;>try trivial
  rename_i v n hv;cases hc;have hops:(Op.call ⟨.value f0,cargs,ts⟩).operands.toList.map a.eval=a.eval f0::(cargs.map a.eval).toList:=by simp[Op.operands,Call.operands]
  rw[hops]at hr;obtain⟨F1,s1,m1,t1,r1⟩:=iy hm hb (cX.of hsub) hrs hr.2;obtain⟨f,caps,e1,e2,rs,y,e3,e4⟩:=qc3 hΓ hv hn s1.bd (s1.repA hr.1) r1;intro K Q hK;unfold Oper.wp;have hrun:(execOp a.eval o).run P w=.ok (.enter f (cargs.map a.eval++caps)) w:=by
   unfold execOp;rw[ho];simp[resolve,e1,Deferred.ofValue,invoke,e2]
  rw[hrun];show Calls P f (cargs.map a.eval++caps) w _;rw[ubf]at e4;refine e4.mono λe w2 hp=>?_;obtain⟨v2,F2,rfl,hbel,hF2,hF2',hrep⟩:=hp;obtain⟨s2,m2⟩:=Step.below m1 hB s1.bd hbel hF2 hF2';exact hK v2 w2 F2 γ (s1.trans s2) m2 (by rw[e3];exact tN hrep)
 ·cases hc
end
end Go.Ab
