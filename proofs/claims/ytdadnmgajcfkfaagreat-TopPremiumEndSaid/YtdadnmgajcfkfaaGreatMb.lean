/-
  Parts of the proof, one behind the other.
-/
import Derived.Test.YtdadnmgajcfkfaaGreatMa
set_option linter.all false
set_option maxRecDepth 100000
set_option maxHeartbeats 4000000
noncomputable section
open Option renaming some->U,none->V
open Bool renaming true->Z,false->Y
open Decidable renaming decide->J
open List renaming replicate->Lrp
open BitVec renaming ofInt->Bvo
open Go Go.RowKit
variable {T α σ ρ β:Type} {P:Program} {ad:Addr} {arr cs cur:Array Value} {f:FuncId} {x a y day:Int} {k:IntKind} {l:List Int} {xs vs news:List Value} {off i n b c d B m len:Nat} {F F' K:Nat->Prop} {R g R':Nat->Value->Prop} {o:Oper} {p:Prop} {e ety t ty el:TypeId} {v u vx:Value} {w w' W' W:World}
namespace Go.Ab
open Go Go.RowKit
section
variable {P:Program} {B:Nat} {o:Oper} {a:Act} {w w':World} {F F':Nat->Prop} {γ γ':Nat->Value} {M m:aX} {R:Nat->Value->Prop}
def GD{t:Ty}{l:List t.q}(C:aG w F (.sl t) l (λ_ u=>u=v)):
  ∃ A c xs,v=.slice A l.length c/\l.length<=c/\(A=V->l=[])/\xs.length=l.length*t.size/\cy w F t l xs/\∀ ad,A=U ad->∀ (j:Nat) u,xs[j]?= U u->w.cell? (ad.add j)=U u:=by
 obtain⟨A,c,s,z,E,n⟩:=C;cases A with
 |none=>
  have B:l=[]:=by
   cases l with
   |nil=>rfl
   |cons x l=>obtain⟨ad,a,_⟩:=n 0 x rfl;cases a
  subst B;exact⟨V,c,[],s.symm,z,λ_=>rfl,by simp,λi x f=>by simp at f,λad a=>by cases a⟩
 |some ad=>
  refine⟨U ad,c,(List.range (l.length*t.size)).map λk=>(w.cell? (ad.add k)).getD undef,s.symm,z,(λh=>by cases h),by simp,λi x f=>?_,λg a j u b=>?_⟩;obtain⟨g,a,_,o⟩:=n i x f;cases a;refine o.mono (λ_ h=>h) (λ_ _=>rfl) λj u b D=>?_;have p:=(uak.1 f).1;have:i*t.size+j<l.length*t.size:=by
   have:i*t.size+t.size<=l.length*t.size:=by rw[<- uex];exact ube _ p
   omega
  rw[uco,List.getElem?_range this];simp[D];cases a;rw[uco]at b;have e:j<l.length*t.size:=by
   rcases ueq j (l.length*t.size)with h|h
   exact h;rw[ua4 (by simpa using h)]at b;simp at b
  rw[List.getElem?_range e]at b;simp at b;have d:0<t.size:=by
   rcases ub5 t.size with m|m
   rw[m]at e;omega;exact m
  have f:=(Nat.div_lt_iff_lt_mul d).2 e;obtain⟨g,a,_,o⟩:=n (j/t.size) _ (uaq f);cases a;obtain⟨y,r,_⟩:=aG.cell t o (j%t.size) (ufi _ d);rw[uew,Nat.div_add_mod]at r;rw[r]at b |-;simpa using b
def cy.append{t:Ty}{l k:List t.q}{c:List Value}(e:cy w F t l xs)(m:xs.length=l.length*t.size)(f:cy w F t k c):cy w F t (l++k) (xs++c):=by
 intro i x a;rcases ueq i l.length with h|h
 rw[uaj h]at a;refine(e i x a).mono (λ_ h=>h) (λ_ _=>rfl) λj u d b=>?_;have:i*t.size+t.size<=l.length*t.size:=by rw[<- uex];exact ube _ h
 rw[uaj (by omega)];exact b;rw[uae h]at a;refine(f (i-l.length) x a).mono (λ_ h=>h) (λ_ _=>rfl) λj u d b=>?_;have g:i*t.size=l.length*t.size+(i-l.length)*t.size:=by rw[<- ufd];congr 1;omega
 rw[uae (by omega)];rw[<- b];congr 1;omega
def X9{c:AC}{t:Ty}{l:List t.q}(s:MemOK P B w F γ M)(d:∀ i y,m i=U y->M i=U y)(h:uD m c=U ⟨t,l⟩)(p:bx P w F (av M γ) c v):
  ∃ A f xs,v=.slice A l.length f/\l.length<=f/\(A=V->l=[])/\xs.length=l.length*t.size/\cy w F t l xs/\∀ ad,A=U ad->∀ (j:Nat) u,xs[j]?= U u->w.cell? (ad.add j)=U u:=by
 unfold uD at h;split at h<;>try trivial
 cases h;exact GD p;cases h;obtain⟨A,_,C⟩:=p;exact GD C;rename_i id;split at h<;>try trivial
 rename_i z E D a;split at h<;>try trivial
 rename_i k;cases h;have r:=fV (d _ _ a) (by simp) p;subst r;obtain⟨xs,b,_,e,_⟩:=iT.of (s.ob id _ (d _ _ a)) k;rcases b.2 with ⟨n,o⟩|⟨g,f,x,n,_,_,o,_⟩
 exact⟨V,0,xs,by rw[n,o],by omega,λ_=>uab o,b.1,e,λad k=>by cases k⟩;refine⟨_,_,xs,n,o,(λh=>by cases h),b.1,e,λad k=>?_⟩;cases k;exact b.cells (by rw[n];rfl);rename_i E D a;cases h;have r:=fV (d _ _ a) (by simp) p;subst r;exact GD (s.ob id _ (d _ _ a))
def qaw(t g e:TypeId)(i:TypeInfo)(f:P.underlying t=U (.slice e))(d:P.info? e=U i)(A:Option Addr)(n a:Nat)(b:n<=a)(c:Nat):
  (Builtin.append_ #[t,t] g #[.slice A n a,.slice V 0 c]).run P w=.ok (.slice A n a) w:=by
 cases A<;>simp[Builtin.append_,ud6 f,sizeOf,typeInfo,d,Builtin.lenOf,Builtin.firstCells,b,storeCells]
def tk(t l e:TypeId)(i:TypeInfo)(z:Value)(size:Nat)(x:P.underlying t=U (.slice e))(p:P.info? e=U i)(S:i.zero=U z)(f:i.size=size)(y:z.cells.size=size)(v:0<size)(s:Value)(n:Nat)(C:List Value)(b:w.ownsRow B e size s n C)(A:Option Addr)(k c:Nat)(a:List Value)(M:A=V->k=0)(D:a.length=k*size)(O:∀ ad,A=U ad->∀ (j:Nat) u,a[j]?= U u->w.cell? (ad.add j)=U u)(L:∀ u∈a,u.oneCell'=Z)(o:n+k<=maxLen)(d:(n+k)*i.bytes<=140737488355328)(N:B<=w.heap.size):
  ∃ h w',(Builtin.append_ #[t,t] l #[s,.slice A k c]).run P w=.ok h w'/\w'.ownsRow B e size h (n+k) (C++a)/\w.grownBy w' s.ownBlock/\(h.ownBlock=s.ownBlock\/h.ownBlock=U w.heap.size):=by
 cases A with
 |none=>
  have Q:=M rfl;subst Q;have R:=uab (by simpa using D);subst R;rcases b.2 with ⟨rfl,rfl⟩|⟨g,m,E,rfl,_,_,r,_⟩
  exact⟨_,w,qaw t l e i x p V 0 0 (ufb _) c,by simpa using b,⟨rfl,rfl,rfl,ufb _,λ_ _ _=>rfl⟩,.inl rfl⟩;exact⟨_,w,qaw t l e i x p _ n m r c,by simpa using b,⟨rfl,rfl,rfl,ufb _,λ_ _ _=>rfl⟩,.inl rfl⟩
 |some ad=>obtain⟨h,w',F,G,H,_,K⟩:=run_append_own_at w B t l e i z size i.bytes x p S f rfl y v s n C b ad k c a D (O ad rfl) L o d N;exact⟨h,w',F,G,H,K⟩
def qle(t F e:TypeId)(i:TypeInfo)(z:Value)(size:Nat)(L:P.underlying t=U (.slice e))(K:P.info? e=U i)(M:i.zero=U z)(p:i.size=size)(E:z.cells.size=size)(S:Option Addr)(n:Nat)(m:List Value)(R:S=V->n=0)(g:m.length=n*size)(D:∀ ad,S=U ad->∀ (j:Nat) u,m[j]?= U u->w.cell? (ad.add j)=U u)(A:Option Addr)(k c:Nat)(a:List Value)(T:0<k)(O:A=V->k=0)(s:a.length=k*size)(H:∀ ad,A=U ad->∀ (j:Nat) u,a[j]?= U u->w.cell? (ad.add j)=U u)(r:n+k<=maxLen)(f:(n+k)*i.bytes<=140737488355328)(Q:B<=w.heap.size):
  ∃ G w',(Builtin.append_ #[t,t] F #[.slice S n n,.slice A k c]).run P w=.ok G w'/\w'.ownsRow B e size G (n+k) (m++a)/\w.grownBy w' V/\G.ownBlock=U w.heap.size:=by
 subst p;obtain⟨ad,rfl⟩:∃ ad,A=U ad:=by
  cases A with
  |none=>have:=O rfl;omega
  |some ad=>exact⟨ad,rfl⟩
 have h:(m++a).length=(n+k)*i.size:=by rw[ub6,g,s,ufd]
 have y:=grownCap_ge w (n+k) n e;have x:=ub7 w (n+k) n e r;have l:((n+k:Nat):Int)<=9223372036854775807:=by simp only[maxLen]at r;omega
 have d:(w.drew.alloc (.cells (m.toArray++a.toArray++Builtin.zeroCells z.cells (grownCap w (n+k) n e-(n+k))) e)).ownsRow B e i.size (.slice (U ⟨w.heap.size,0,V⟩) (n+k) (grownCap w (n+k) n e)) (n+k) (m++a):=by refine⟨h,.inr ⟨w.heap.size,_,_,rfl,Q,ud8 w.drew _,y,x,?_,?_⟩⟩;simp only[ucp,ucq,size_zeroCells,E,g,s,<- ufd];congr 1;omega;simp;rw[<- ucr,<- h];exact List.take_left
 have o:w.grownBy (w.drew.alloc (.cells (m.toArray++a.toArray++Builtin.zeroCells z.cells (grownCap w (n+k) n e-(n+k))) e)) none:=⟨rfl,rfl,rfl,by simp,λb v _=>heap_alloc_old w.drew _ b v⟩;cases S with
 |none=>have W:=R rfl;subst W;have hx:=uab (by simpa using g);subst hx;have C:=run_append_nil w t F e i z L K M ad k c a s (H ad rfl) T (by simpa using l) (by have v:=f;simp at v;omega);simp at d o |-;exact⟨_,_,C,d,o,rfl⟩
 |some N=>have C:=run_append_grow w t F e i z L K M N n n m g (D N rfl) ad k c a s (H ad rfl) (by omega) l (growslice_fits (by omega) f);exact⟨_,_,C,d,o,rfl⟩
def nj{size:Nat}{s:Value}(h:w.ownsRow B t size s n xs):s.oneCell'=true:=by rcases h.2 with ⟨rfl,_⟩|⟨g,a,b,rfl,_⟩<;>rfl
def qlg{s x:AV}{e:Eff}{vs:Value}(hm:MemOK P B w F γ M)(hb:∀ b,F b->b<w.heap.size)(hB:B<=w.heap.size)(k:∀ i y,m i=U y->M i=U y)(hd:m d=V->M d=V)(h:Jw P d t s x m=U e)(T:az e.need)(hs:aK P w F (av M γ) s vs)(hx:aK P w F (av M γ) x vx):
  ∃ u w' γ',(Builtin.append_ #[t,t] ty #[vs,vx]).run P w=.ok u w'/\Step B w F γ M w' F γ' (aB M e.wr)/\MemOK P B w' F γ' (aB M e.wr)/\aK P w' F (av (aB M e.wr) γ') e.v u:=by
 unfold Jw at h;split at h<;>try trivial
 rename_i el ht;split at h<;>try trivial
 rename_i i tt hi htt hmd;have O:=hd hmd;split at h<;>try trivial
 rename_i hsz;obtain⟨r,C,K,L⟩:=hsz;obtain⟨z,hz,W⟩:∃ z,i.zero=U z/\z.cells.size=tt.size:=by
  cases hz:i.zero with
  |none=>simp[hz]at L
  |some z=>exact⟨z,rfl,by simpa[hz]using L⟩
 split at h<;>try trivial
 rename_i new f;obtain⟨A,n,a,hvx,hlc,hA,D,E,c⟩:∃ A n a,vx=.slice A new.length n/\new.length<=n/\(A=V->new=[])/\a.length=new.length*tt.size/\cy w F tt new a/\∀ ad,A=U ad->∀ (j:Nat) u,a[j]?= U u->w.cell? (ad.add j)=U u:=by
  split at f<;>try trivial
  cases f;obtain⟨_,rfl⟩:=hx;exact⟨V,0,[],rfl,ufb _,λ_=>rfl,by simp,λi x hi=>by simp at hi,λad he=>by cases he⟩;split at f<;>try trivial
  rename_i u l hl;split at f<;>try trivial
  rename_i hu;subst hu;cases f;exact X9 hm k hl hx.2
 subst hvx;have N:A=V->new.length=0:=λh=>by rw[hA h];rfl
 have H:=CO E D;split at h<;>try trivial
 cases h;obtain⟨_,rfl⟩:=hs;obtain⟨v',w',e1,p,G,e4⟩:=tk t ty el i z tt.size ht hi hz C W K (.slice V 0 0) 0 [] (ucs w B el tt.size) A new.length n a N D c H (by have:=T.1;omega) (by have:=T.2;simpa using this) hB;rw[uey,udn]at p;obtain⟨s1,s2⟩:=yv hm hb hB O G p (λg hg=>by rcases e4 with h|h<;>rw[h]at hg<;>simp[Value.ownBlock]at hg;omega) (E.mono (λ_ h=>h) (λb o=>G.block b (hb b o) (by simp[Value.ownBlock]))) r;exact⟨v',w',_,e1,s1,s2,o7 (nj p)⟩
 rename_i id;split at h<;>try trivial
 rename_i e' u l R;split at h<;>try trivial
 rename_i hu;subst hu;split at h<;>try trivial
 rename_i he';obtain⟨rfl,_⟩:=he';cases h;have Q:cY (rfl:u=u) l=l:=rfl;have hv:=fV (k _ _ R) (by simp) hs.2;subst hv;obtain⟨xs,q1,q2,q3,q4⟩:=iT.of (hm.ob id _ (k _ _ R)) r;obtain⟨v',w',e1,p,G,e4⟩:=tk t ty e' i z u.size ht hi hz C W K (γ id) l.length xs q1 A new.length n a N D c H T.1 T.2 hB;have hFb:=λb o=>G.block b (hb b o) (λhe=>q2 b he.symm o);rw[<- ub6]at p;obtain⟨s1,s2⟩:=GM hm hb hB (k _ _ R) O G p (e4.elim .inl (λh=>.inr (.inl h))) ((q3.append q1.1 E).mono (λ_ h=>h) hFb) r r;exact⟨v',w',_,e1,s1,s2,o7 (nj p)⟩
 rename_i u l;split at h<;>try trivial
 rename_i hu;subst hu;cases h;have Q:cY (rfl:u=u) l=l:=rfl;obtain⟨_,S,hvs,hrs⟩:=hs;obtain⟨S',c',xs,hv,_,hS,hxl,hxr,hxc⟩:=GD hrs;rw[hvs]at hv;cases hv;subst hvs;obtain⟨v',w',e1,p,G,e4⟩:=qle t ty el i z u.size ht hi hz C W S l.length xs (λh=>by rw[hS h];rfl) hxl hxc A new.length n a T.1 N D c T.2.1 T.2.2 hB;rw[<- ub6]at p;obtain⟨s1,s2⟩:=yv hm hb hB O G p (λg hg=>by rw[e4]at hg;simp at hg;omega) ((hxr.append hxl E).mono (λ_ h=>h) (λb o=>G.block b (hb b o) (by simp))) r;exact⟨v',w',_,e1,s1,s2,o7 (nj p)⟩
end
section
variable {P:Program} {B:Nat} {o:Oper} {a:Act} {w w':World} {F F':Nat->Prop} {γ γ':Nat->Value} {M m:aX} {R:Nat->Value->Prop}
def dg(arr:Array Value)(off:Nat)(vs:List Value):Array Value:=(arr.toList.take off++vs++arr.toList.drop (off+vs.length)).toArray
def Cs(h:off+vs.length<=arr.size):(dg arr off vs).size=arr.size:=by simp[dg];omega
def Cr(h:off+vs.length<=arr.size){j:Nat}(a:j<vs.length):(dg arr off vs)[off+j]?= vs[j]? := by simp only[dg,List.getElem?_toArray];rw[uaj (by simp;omega),uae (by simp;omega)];congr 1;simp;omega
def uQ(h:off+vs.length<=arr.size){j:Nat}(a:j<off\/off+vs.length<=j):(dg arr off vs)[j]?= arr[j]? := by
 simp only[dg,List.getElem?_toArray];rcases a with a|a
 rw[uaj (by simp;omega),uaj (by simp;omega),ub2,ufw a];simp;rw[uae (by simp;omega),ub1];simp only[ub6,uc5,ubu];rw[show off+vs.length+(j-(min off arr.size+vs.length))=j from by omega];simp
def HA{h:TypeInfo}(c:w.heap[b]?= U (.cells arr ty (0,0)))(d:P.info? t=U h)(f:v.cells.size=P.cellsOf t)(e:off+v.cells.size<=arr.size)(a:∀ u∈v.cells,u.oneCell'=Z):(Instr.storeAt t (.pointer (U ⟨b,off,V⟩)) v).run P w=.ok () (w.setRow b (dg arr off v.cells.toList)):=by have:=run_storeCells_at (P:=P) b off ty v.cells.toList 0 arr w c (by simpa using e) (λu g=>a u (ubh.1 g));simp[Instr.storeAt,Instr.sureAddr,storeVar,jj d,f,this,dg]
def P6{a:aX}(g:∀ b,F b->b<w.heap.size)(d:¬ F b)(k:B<=b)(f:∀ i v,av M γ i v->av a γ i v):Step B w F γ M (w.setRow b arr) F γ a:=
 ⟨λ_ h=>h,λc h=>ue0 w b c _ (λe=>d (e ▸ h)),f,λc h=>ue0 w b c _ (by omega),rfl,rfl,rfl,by simp,λc h=>by have:=g c h;simpa using this,λc h=>.inl h⟩
def so{id:Nat}{l cs':List AC}(r:MemOK P B w F γ M)(n:∀ b,F b->b<w.heap.size)(k:M id=U (.box e l))(d:γ id=.pointer (U ⟨b,0,V⟩))(o:w.heap[b]?= U (.cells arr e (0,0)))(i:¬ F b)(g:B<=b)(p:off+vs.length<=arr.size)(t:arr.size=cs'.length)(s:aS P w F (av M γ) cs' (λj u=>(dg arr off vs)[j]?= U u)):
  Step B w F γ M (w.setRow b (dg arr off vs)) F γ (upd M id (.box e cs'))/\MemOK P B (w.setRow b (dg arr off vs)) F γ (upd M id (.box e cs')):=by
 have a:Step B w F γ M (w.setRow b (dg arr off vs)) F γ (upd M id (.box e cs')):=P6 n i g (qm k (by simp));refine⟨a,r.change k (by simp) a.hF a.hw (λc h=>h) (λc _ f=>⟨ue0 w b c _ (λm=>f ⟨_,d,m.symm⟩),λh=>h⟩) ?_⟩;exact⟨b,_,d,ufe w b arr _ e (0,0) o,i,g,by rw[Cs p];exact t,a.repCL s⟩
def zkj{id:Nat}{a:Ob}(b:M id=U a)(c:a ≠ .gone)(h:av M γ id v):v=γ id:=by unfold av at h;cases a<;>simp_all
def qaq{id:Nat}:{cs xs:List AC} -> {u:List (Nat×Ob)}->lB m cs=U (xs,u)->(cs.flatMap og).all (· != id)=Z->∀ M:aX,aB M u id=M id
 |[],xs,u,h,_,M=>by obtain⟨rfl,rfl⟩:=h;rfl
 |c::r,xs,u,h,f,M=>by
  simp only[lB]at h;split at h;rename_i x g y k a d;cases h;have b:(og c).all (· != id)=Z/\(r.flatMap og).all (· != id)=true:=by simpa[udo]using f
  rw[iP,qaq d b.2];unfold oO at a;split at a;rename_i i;have e:i≠id:=by have:=b.1;simpa[og]using this
  split at a<;>try trivial
  simp at a;obtain⟨_,_,rfl⟩:=a;exact gL _ _ (Ne.symm e);simp at a;obtain⟨_,rfl⟩:=a;rfl;simp at a;obtain⟨_,rfl⟩:=a;rfl;cases h
def zoy{x v:AV}{e:Eff}{E:Value}(hm:MemOK P B w F γ M)(hb:∀ b,F b->b<w.heap.size)(z:∀ i y,m i=U y->M i=U y)(h:P8 P t x v m=U e)(hn:az e.need)(hx:aK P w F (av M γ) x vx)(hv:aK P w F (av M γ) v E):
  e.v=.dead/\∃ w' F',(Instr.storeAt t vx E).run P w=.ok () w'/\Step B w F γ M w' F' γ (aB M e.wr)/\MemOK P B w' F' γ (aB M e.wr):=by
 unfold P8 at h;split at h<;>try trivial
 rename_i new hnew;obtain⟨c1,c2,c3⟩:=rf hnew hv;split at h<;>try trivial
 rename_i hi;obtain⟨ti,hti⟩:=uar.1 hi.1;have hsz:E.cells.size=P.cellsOf t:=by omega
 split at h<;>try trivial
 rename_i id f;split at h<;>try trivial
 rename_i K cs C;split at h<;>try trivial
 rename_i cs' a;cases h;obtain⟨b,d,T,rfl,e3,e4,e5,e6,e7⟩:=nM hm (z _ _ C) hx.2;have S:f+E.cells.toList.length<=d.size:=by unfold ql at a;split at a;simp;omega;cases a
 obtain⟨p1,p2⟩:=Hv (g':=λj u=>(dg d f E.cells.toList)[j]?= U u) a e7 (c2.turn λj u L D=>by
   rw[Cr S (by simp;omega)];simpa using D) (λj u L D=>by
   rw[uQ S (by simp;omega)];exact D)
 obtain⟨s1,s2⟩:=so hm hb (z _ _ C) T e3 e4 e5 S (by omega) p2;exact⟨rfl,_,F,HA e3 hti hsz (by simpa using S) c3,s1,s2⟩
 rename_i id sz i f;split at h<;>try trivial
 rename_i K p l new' u C hrs;split at h<;>try trivial
 rename_i hc;obtain⟨N,hsz',hno⟩:=hc;split at h<;>try trivial
 rename_i row a;split at h<;>try trivial
 rename_i y hdec;cases h;have hil:i<l.length:=hn;obtain⟨F1,s1,m1,t1,l1,r1⟩:=CR hm hb (dM.of z) hrs c2;have W:aB M u id=U (.arr K p l):=by rw[qaq hrs hno];exact z _ _ C
 obtain⟨b,c,d,T,e2,e3,e4,e5,e6⟩:=Sg m1 W N hil;obtain⟨A,n0,c0,f1,rfl⟩:=hx;have f2:=zkj (z _ _ C) (by simp) f1;rw[T]at f2;obtain⟨rfl,rfl,rfl⟩:=f2;subst hsz';have hlr:f+new'.length<=p.size:=by unfold ql at a;split at a;rename_i hle;rw[gV]at hle;exact hle;cases a
 have hnl:E.cells.toList.length=new'.length:=by rw[l1];simpa using c1
 have s:i*p.size+f+E.cells.toList.length<=d.size:=by rw[uex]at e5;omega
 obtain⟨p1,p2⟩:=Hv (g':=λj u=>(dg d (i*p.size+f) E.cells.toList)[i*p.size+j]?= U u) a e6
  (r1.turn λj u L D=>by rw[<- uei,Cr s (by omega)];simpa using D)
  (λj u L D=>by rw[uQ s (by omega)];exact D)
 obtain⟨q1,_⟩:=aG.dec p hdec p2;have Q:Step B w F1 γ (aB M u) (w.setRow b (dg d (i*p.size+f) E.cells.toList)) F1 γ (upd (aB M u) id (.arr K p (l.set i y))):=P6 s1.bd e3 e4 (qm W (by simp));have hmm:MemOK P B (w.setRow b (dg d (i*p.size+f) E.cells.toList)) F1 γ (upd (aB M u) id (.arr K p (l.set i y))):=by
  have hnm:∀ b',γ id ≠ .map (U b'):=λb' he=>by rw[T]at he;cases he
  refine m1.change W (by simp) Q.hF Q.hw (λc h=>(oa N hnm).2 ((oa N hnm).1 h)) (λc _ hne=>⟨ue0 w b c _ (λe'=>hne (.inl (by rw[T];simp[Value.ownBlock,e']))),λh=>h⟩) ?_;obtain⟨xs,hown,hnF,O,hone⟩:=iT.of (m1.ob id _ W) N;obtain⟨hxl,hn'|⟨g,cap,cur,hv',hbg,hg,hnc,hcm,hcs,ht⟩⟩:=hown;omega;rw[T]at hv';obtain⟨rfl,rfl⟩:=hv';rw[e2]at hg;simp at hg;subst hg;have G:cy w F1 p (l.set i y) ((dg d (i*p.size+f) E.cells.toList).toList.take (l.length*p.size)):=by
   intro k x hk;have hkl:k<l.length:=by simpa using (uak.1 hk).1
   have hkb:k*p.size+p.size<=l.length*p.size:=by rw[<- uex];exact ube _ hkl
   rcases uct k i with h1|h1|h1
   rw[ubi (by omega)]at hk;have hki:k*p.size+p.size<=i*p.size:=by rw[<- uex];exact ube _ h1
   refine(O k x hk).mono (λ_ h=>h) (λ_ _=>rfl) λj u L D=>?_;rw[ub2,ufw (by omega),ua5,uQ s (by omega)];rw[<- ht,ub2,ufw (by omega)]at D;simpa using D;subst h1;rw[ua0 hkl]at hk;cases hk;refine q1.mono (λ_ h=>h) (λ_ _=>rfl) λj u L D=>?_;rw[ub2,ufw (by omega),ua5];exact D;rw[ubi (by omega)]at hk;have hki:i*p.size+p.size<=k*p.size:=by rw[<- uex];exact ube _ h1
   refine(O k x hk).mono (λ_ h=>h) (λ_ _=>rfl) λj u L D=>?_;rw[ub2,ufw (by omega),ua5,uQ s (by omega)];rw[<- ht,ub2,ufw (by omega)]at D;simpa using D
  have hlc:l.length*p.size<=d.size:=by rw[hcs];exact ube _ hnc
  have hxl':((dg d (i*p.size+f) E.cells.toList).toList.take (l.length*p.size)).length=(l.set i y).length*p.size:=by
   have h8:(dg d (i*p.size+f) E.cells.toList).toList.length=d.size:=by simpa using Cs s
   rw[uc5,h8,udp];omega
  refine .inl ⟨N,_,⟨hxl',.inr ⟨b,_,_,by rw[T,udp],hbg,ufe w b d _ K (0,0) e2,by rw[udp];exact hnc,hcm,by rw[Cs s];exact hcs,by rw[udp]⟩⟩,hnF,G.mono Q.hF Q.hw,CO G hxl'⟩
 have hrun:=HA e2 hti hsz (by simpa using s) c3;refine⟨rfl,_,F1,by rw[kq,uey];exact hrun,?_,?_⟩;rw[iP];exact s1.trans Q;rw[iP];exact hmm
 rename_i id f n i;split at h<;>try trivial
 rename_i K cs k y C;split at h<;>try trivial
 rename_i bz H;split at h<;>try trivial
 rename_i R hns;split at h<;>try trivial
 rename_i cs' a;cases h;obtain⟨ad,a1,a2,a3,rfl⟩:=hx;obtain⟨b,d,T,e2,e3,e4,e5,e6,e7⟩:=nM hm (z _ _ C) a1;simp at e2;subst e2;obtain⟨u,o,hu2⟩:∃ u,E.cells = #[u]/\(u=.int k y/\inR k y):=by
  obtain⟨⟨u,g1,_,g3⟩,_⟩:=c2;have:E.cells.size=1:=by simpa using c1
  refine⟨u,?_,g3⟩;apply ufp;simpa using this;intro j hj1 hj2;have:j=0:=by simp at hj2;exact hj2
  subst this;have:=(uaf.1 g1).2;simpa using this
 obtain⟨hu2,hy⟩:=hu2;subst hu2;have hseq:=Gx hns;obtain⟨g1,g2⟩:=xL H e7;have hsb:f+n<=cs.length:=by unfold jT at H;split at H;assumption;cases H
 have S:f+i.toNat+E.cells.toList.length<=d.size:=by rw[o];simp;omega
 have hnsl:R.length=n:=by rw[hseq]at g1;simpa using g1
 have hset:∀ (R:List Int) (j0:Nat),(sn R j0 i y).length=R.length/\∀ j,(sn R j0 i y)[j]?= if i=((j0+j:Nat):Int)/\j<R.length then U y else R[j]? := by
  intro R
  induction R with
  |nil=>intro j0;exact⟨rfl,λj=>by simp[sn]⟩
  |cons q r ih=>
   intro j0;obtain⟨i1,i2⟩:=ih (j0+1);refine⟨by simp[sn,i1],λj=>?_⟩;cases j with
   |zero=>
    simp only[sn,uez,uc9];by_cases hq:i=(j0:Int);rw[ufw ⟨hq,by omega⟩];simp[hq];rw[ufx (by omega)];have:(i==(j0:Int))=false:=by simpa using hq
    simp[this]
   |succ j=>simp only[sn,List.getElem?_cons_succ,uc9];rw[i2];by_cases hq:i=((j0+1+j:Nat):Int)/\j<r.length;rw[ufw hq,ufw ⟨by rw[hq.1];congr 1;omega,by omega⟩];rw[ufx hq,ufx (λhh=>hq ⟨by rw[hh.1];congr 1;omega,by omega⟩)]
 obtain⟨z1,z2⟩:=hset R 0;obtain⟨p1,p2⟩:=Hv (g':=λj u=>(dg d (f+i.toNat) E.cells.toList)[j]?= U u) a e7
  (mF _ λj c hc=>by
   rw[uco,z2]at hc;by_cases L:i=((0+j:Nat):Int)/\j<R.length;rw[ufw L]at hc;simp at hc;subst hc;refine⟨.int k y,?_,rfl,rfl,hy⟩;have hij:i.toNat=j:=by omega
   have:=Cr S (j:=0) (by rw[o];simp);rw[hij,uez]at this;rw[hij,this,o];rfl;rw[ufx L]at hc;have hcs:bz[j]?= U c:=by rw[hseq,uco];exact hc
   obtain⟨u,d1,d2⟩:=g2.at_ hcs;refine⟨u,?_,d2⟩;rw[uQ S (by rw[o];simp;omega)];exact d1)
  (λj u L D=>by rw[uQ S (by rw[o];simp at L |-;omega)];exact D)
 obtain⟨s1,s2⟩:=so hm hb (z _ _ C) T e3 e4 e5 S (by omega) p2;exact⟨rfl,_,F,by rw[kq];exact HA e3 hti hsz (by simpa using S) c3,s1,s2⟩
end
section
variable {P:Program} {B:Nat} {o:Oper} {a:Act} {w w':World} {F F':Nat->Prop} {γ γ':Nat->Value} {M m:aX} {R:Nat->Value->Prop} {Γ:Gm}
def zgb{n c:Int}{kn kc:IntKind}{e:Eff}(hm:MemOK P B w F γ M)(T:∀ b,F b->b<w.heap.size)(S:B<=w.heap.size)(W:m d=V->M d=V)(h:NI P d t n c m=U e)(hn:az e.need):
  ∃ u w' γ',(Instr.makeSlice t (.int kn n) (.int kc c)).run P w=.ok u w'/\Step B w F γ M w' F γ' (aB M e.wr)/\MemOK P B w' F γ' (aB M e.wr)/\aK P w' F (av (aB M e.wr) γ') e.v u:=by
 unfold NI at h;split at h<;>try trivial
 rename_i Q ht;split at h<;>try trivial
 rename_i i f hi htt L;split at h<;>try trivial
 rename_i z hz;split at h<;>try trivial
 rename_i cs G;split at h<;>try trivial
 rename_i x s;split at h<;>try trivial
 rename_i O;obtain⟨o,r,N,hs3⟩:=O;cases h;obtain⟨n1,n2,n3,n4⟩:=hn;obtain⟨z1,z2,_⟩:=rf G (wC (P:=P) (R:=av M γ) z);obtain⟨r1,_⟩:=aG.dec f s z2;have hr:=run_make w t Q i z ht hi hz kn kc n c n1 n2 (by rw[ue1];omega) (by simp only[maxLen]at n3;omega);have E:c.toNat<=maxLen:=by omega
 have l:∀ k,k<c.toNat*i.size->(madeCells z.cells (c.toNat*i.size))[k]?= z.cells[k%z.cells.size]? := by
  intro k C;have A:0<z.cells.size:=by omega
  have o:=ufi k A;have H:z.cells[k%z.cells.size]! = z.cells[k%z.cells.size]:=by simp[o]
  simp[madeCells,C,H]
 have p:cy (w.alloc (.cells (madeCells z.cells (c.toNat*i.size)) Q)) F f (Lrp n.toNat x) ((madeCells z.cells (c.toNat*i.size)).toList.take (n.toNat*f.size)):=by
  intro k y C;have K:k<n.toNat:=by simpa using (uak.1 C).1
  have hy:y=x:=by have:=(uak.1 C).2;simpa using this.symm
  subst hy;have hkb:k*f.size+f.size<=n.toNat*f.size:=by rw[<- uex];exact ube _ K
  have hnc:n.toNat*f.size<=c.toNat*i.size:=by rw[r];exact ube _ (by omega)
  refine r1.mono (λ_ h=>h) (λb D=>udb _ _ _ (T b D)) λj u hj hu=>?_;rw[ub2,ufw (by omega),ua5,l _ (by omega),N];rw[show(k*f.size+j)%f.size=j from by rw[uew,Nat.mul_add_mod];exact Nat.mod_eq_of_lt hj];exact hu
 have a:(Lrp n.toNat x).length=n.toNat:=by simp
 obtain⟨s1,s2⟩:=yv hm T S (W L)
  (ubv w _ V)
  ⟨by
    rw[uc5,ubu,size_madeCells,a];have:n.toNat*f.size<=c.toNat*i.size:=by rw[r];exact ube _ (by omega)
    omega,
   .inr ⟨w.heap.size,c.toNat,_,by rw[a],S,ud8 w _,by rw[a];omega,E,by rw[size_madeCells,r],by rw[a]⟩⟩
  (λg H=>by simp[Value.ownBlock]at H;omega) p o
 exact⟨_,_,_,hr,s1,s2,o7 rfl⟩
def Va{sz:Nat}{t:Ty}(o:t.size=sz):{vs:List (Nat×AV)} -> {ps:List (Nat×Value)} -> {l:List t.q} -> {k:Nat} -> {arr:Array Value}->qq t k vs=U l->ps.length=vs.length ->
  (∀ (q i:Nat) (x:AV) (v:Nat×Value),vs[q]?= U (i,x)->ps[q]?= U v->v.1=i/\aK P w F R x v.2)->(k+vs.length)*sz<=arr.size ->
  l.length=vs.length/\∃ a,Instr.fill (λi=>U (i*sz,sz)) arr ps=U a/\a.size=arr.size/\(∀ j,j<k*sz->a[j]?= arr[j]?) /\
   ∀ (i:Nat) (x:t.q),l[i]?= U x->aG w F t x (λj u=>a[(k+i)*sz+j]?= U u)
 |[],[],l,k,arr,h,_,_,_=>by simp only[qq,ucl]at h;subst h;exact⟨rfl,arr,rfl,rfl,λ_ _=>rfl,λi x N=>by simp at N⟩
 |(i,x)::r,(T,v)::ps,l,k,arr,h,b,B,f=>by
  obtain⟨rfl,C⟩:=B 0 i x (T,v) rfl rfl;simp only at C;simp only[qq]at h;split at h<;>try trivial
  rename_i g;split at h<;>try trivial
  rename_i y l' S m;cases h;have c:=tR S C;obtain⟨W,e2,D⟩:=c;have M:k*sz+sz<=arr.size:=by have e:(k+1)*sz<=(k+(r.length+1))*sz:=ube _ (by omega);rw[uex]at e;simp at f;omega
  obtain⟨p,s⟩:=Mp v.cells.toList (k*sz) 0 arr;have hz:v.cells.zipIdx.foldl (λd (x:Value×Nat)=>d.setIfInBounds (k*sz+x.2) x.1) arr=(v.cells.toList.zipIdx 0).foldl (λd (x:Value×Nat)=>d.setIfInBounds (k*sz+x.2) x.1) arr:=by rw[<- Array.foldl_toList,Array.toList_zipIdx]
  obtain⟨E,a,G,H,A,K⟩:=Va o m (by simpa using b)
   (λq i x v e L=>B (q+1) i x v (by simpa using e) (by simpa using L)) (by rw[p];simp at f;rw[show k+1+r.length=k+(r.length+1) from by omega];exact f)
  refine⟨by simp[E],a,?_,by rw[H,p],λj O=>?_,λq z n=>?_⟩;subst g;simp only[Instr.fill];rw[ufx (by simp;omega),<- G];congr 1;rw[A j (by rw[uex];omega),s,ufx (by omega)];cases q with
  |zero=>simp at n;subst n;refine D.mono (λ_ h=>h) (λ_ _=>rfl) λj u O Q=>?_;rw[uez,A _ (by rw[uex];omega),s,ufw (by simp;omega)];simpa using Q
  |succ q=>have:=K q z (by simpa using n);rw[show k+1+q=k+(q+1) from by omega]at this;exact this
 |[],_::_,_,_,_,_,b,_,_=>by simp at b
 |_::_,[],_,_,_,_,b,_,_=>by simp at b
def qmb{i:TypeInfo}{z:Value}{e:Ty}{vs:List (Nat×AV)}{ps:Array (Nat×Value)}{l:List e.q}(hm:MemOK P B w F γ M)(hb:∀ b,F b->b<w.heap.size)(hB:B<=w.heap.size)(hd:M d=V)(ht:P.underlying t=U (.slice el))(G:P.info? el=U i)(hz:i.zero=U z)(L:i.size=e.size)(hzs:z.cells.size=e.size)(hpos:0<e.size)(hbig:n*i.size<=16777216)(h:qq e 0 vs=U l)(K:l.length=n)(T:ps.size=vs.length)(hp:∀ (q i:Nat) (x:AV) (v:Nat×Value),vs[q]?= U (i,x)->ps[q]?= U v->v.1=i/\aK P w F (av M γ) x v.2)(R:el<cJ):
  ∃ u w' γ',(Instr.buildSlice t n ps).run P w=.ok u w'/\Step B w F γ M w' F γ' (upd M d (.arr el e l))/\MemOK P B w' F γ' (upd M d (.arr el e l))/\aK P w' F (av (upd M d (.arr el e l)) γ') (.c (.own d)) u:=by
 have o:vs.length=n:=by
  have:∀ (vs:List (Nat×AV)) (k:Nat) (l:List e.q),qq e k vs=U l->l.length=vs.length:=by
   intro vs
   induction vs with
   |nil=>intro k l h;simp only[qq,ucl]at h;subst h;rfl
   |cons x r ih=>
    intro k l h;simp only[qq]at h;split at h<;>try trivial
    split at h<;>try trivial
    rename_i N;cases h;simp[ih _ _ N]
  rw[<- this vs 0 l h,K]
 have S:n<=maxLen:=by have:n*1<=n*i.size:=Nat.mul_le_mul_left _ (by omega);simp only[maxLen];omega
 have E:∀ f:Array Value,f.size=n*i.size->∃ a,Instr.fill (λj=>U (j*i.size,i.size)) f ps.toList=U a/\a.size=n*i.size/\∀ (k:Nat) (x:e.q),l[k]?= U x->aG w F e x (λj u=>a[k*i.size+j]?= U u):=by intro f h0;obtain⟨_,a,g2,g3,_,g5⟩:=Va L.symm (ps:=ps.toList) h (by simpa using T) (λq i x v h1 N=>hp q i x v h1 (by simpa using N)) (by rw[h0,uey,o];exact ufb _);exact⟨a,g2,by rw[g3,h0],λk x H=>by have:=g5 k x H;rw[uey]at this;exact this⟩
 have W:(zeroValue el).run P w=.ok z w:=by simp[zeroValue,typeInfo,G,hz]
 have C:∃ a,a.size=n*i.size/\(∀ (k:Nat) (x:e.q),l[k]?= U x->aG w F e x (λj u=>a[k*i.size+j]?= U u)) /\
   (Instr.buildSlice t n ps).run P w=.ok (.slice (U ⟨w.heap.size,0,V⟩) n n) (w.alloc (.cells a el)):=by
  have A:P.cellsOf el=i.size:=by simp[Program.cellsOf,G]
  have m:¬ (16777216<n*i.size):=by omega
  by_cases p:n*i.size=0;obtain⟨a,k1,y,D⟩:=E ((Array.range 0).map λ_=>default) (by simp[p]);refine⟨a,y,D,?_⟩;simp only[Instr.buildSlice,uet,ud6 ht,ucm,jj G,A];simp[p,k1,newRow,Sem.run];obtain⟨a,k1,y,D⟩:=E ((Array.range (n*i.size)).map (λj=>z.cells[j%z.cells.size]!)) (by simp);refine⟨a,y,D,?_⟩;simp only[Instr.buildSlice,uet,ud6 ht,ucm,jj G,A];simp[p,m,W,k1,newRow,newObj,Sem.run]
 obtain⟨a,y,D,hr⟩:=C;have s:cy (w.alloc (.cells a el)) F e l (a.toList.take (l.length*e.size)):=by
  intro k x H;have Q:=(uak.1 H).1;have hkb:k*e.size+e.size<=l.length*e.size:=by rw[<- uex];exact ube _ Q
  refine(D k x H).mono (λ_ h=>h) (λb O=>udb _ _ _ (hb b O)) λj u hj hu=>?_;rw[ub2,ufw (by omega),ua5,<- L];exact hu
 obtain⟨s1,s2⟩:=yv hm hb hB hd (ubv w _ V)
  ⟨by
    have h9:a.toList.length=n*e.size:=by rw[<- L];simpa using y
    rw[uc5,h9,K];exact Nat.min_self _,.inr ⟨w.heap.size,n,_,by rw[K],hB,ud8 w _,by rw[K];exact ufb _,S,by rw[y,L],rfl⟩⟩
  (λg hg=>by simp[Value.ownBlock]at hg;omega) s R
 exact⟨_,_,_,hr,s1,s2,o7 rfl⟩
def qbh{t:Ty}{l:List t.q}{A:Option Addr}{lo hi mx:Nat}(n:aG w F (.sl t) l (λ_ u=>u=.slice A l.length c))(y:lo<=hi)(z:hi<=l.length)(B:hi<=mx)(C:mx<=c):
  aG w F (.sl t) ((l.drop lo).take (hi-lo)) (λ_ u=>u=.slice (if mx=lo then A else A.map (·.add (lo*t.size))) (hi-lo) (mx-lo)):=by
 obtain⟨p,r,f,s,v,g⟩:=n;obtain⟨rfl,_,rfl⟩:=f;have a:((l.drop lo).take (hi-lo)).length=hi-lo:=by simp;omega
 refine⟨_,mx-lo,by rw[a],by rw[a];omega,by omega,λi x b=>?_⟩;have d:i<hi-lo:=by rw[<- a];exact(uak.1 b).1
 rw[ub2,ufw d,ub1]at b;obtain⟨e,rfl,k,m⟩:=g _ _ b;refine⟨e.add (lo*t.size),by rw[ufx (by omega)];rfl,by rw[th];exact k,m.mono (λ_ h=>h) (λ_ _=>rfl) λj u D o=>?_⟩;rw[pn,<- o,ufd,uei]
def nt{n:Int}{y:Nat}{a:BoundsCode}(b:0<=n)(c:n<=y):(Instr.sliceBound (.int k n) y a).run P w=.ok n.toNat w:=by simp[Instr.sliceBound,asIntOf,b,c]
def zh9{b:Bool}{r d:List AV}{x:Option Int}(h:y9 b r=U (x,d))(c:bI P w F R r vs):
  (b=Y/\x=V/\d=r)\/(b=Z/\∃ k n v a,x=U n/\vs=v::a/\v=.int k n/\bI P w F R d a):=by
 unfold y9 at h;split at h;simp at h;exact .inl ⟨rfl,h.1.symm,h.2.symm⟩;cases h;cases vs with
 |nil=>exact c.elim
 |cons v vs=>exact .inr ⟨rfl,_,_,v,vs,rfl,rfl,c.1.2.1,c.2⟩
 cases h
def zn4{L:TypeInfo}{x:Ty}{y:List x.q}{l h k:Option Int}{kl kh kk:IntKind}{c:AC}{n:List Prop}{A:Option Addr}{a:Nat}(K:P.underlying t=U (.slice e))(G:P.info? e=U L)(H:P.cellsOf e=x.size)(b:Pu x y l h k=U (c,n))(D:az n)(B:aG w F (.sl x) y (λ_ u=>u=.slice A y.length a)):
  ∃ u,(Instr.sliceAt t (.slice A y.length a) (l.map (.int kl)) (h.map (.int kh)) (k.map (.int kk))).run P w=.ok u w/\u.oneCell'=Z/\bx P w F R c u:=by
 have C:y.length<=a:=by obtain⟨M,N,E,O,_⟩:=B;simp at E;omega
 have g:∀ (d f mx:Nat),(Instr.sliceBounds Z y.length a (l.map (.int kl)) (h.map (.int kh)) (k.map (.int kk))).run P w=.ok (d,f,mx) w ->
   (Instr.sliceAt t (.slice A y.length a) (l.map (.int kl)) (h.map (.int kh)) (k.map (.int kk))).run P w=.ok (.slice (if mx=d then A else A.map (·.add (d*x.size))) (f-d) (mx-d)) w:=by
  intro d f mx s;simp[Instr.sliceAt,Instr.slice,ud6 K,s,jj G,H]
 unfold Pu at b;split at b;cases b;obtain⟨o,p,z⟩:=D;have s:(Instr.sliceBounds Z y.length a (l.map (.int kl)) (h.map (.int kh)) ((none:Option Int).map (.int kk))).run P w=.ok ((l.getD 0).toNat,(h.getD y.length).toNat,a) w:=by
  cases h with
  |none=>
   cases l with
   |none=>simp[Instr.sliceBounds]
   |some d=>simp at o p z;simp[Instr.sliceBounds,nt o p]
  |some f=>
   have r:f<=(a:Int):=by simp at z;omega
   have i:0<=f:=by simp at p;omega
   cases l with
   |none=>simp[Instr.sliceBounds,nt i r]
   |some d=>simp at o p z;simp[Instr.sliceBounds,nt i r,nt (P:=P) (w:=w) (y:=f.toNat) o (by omega)]
 have m:=qbh (lo:=(l.getD 0).toNat) (hi:=(h.getD y.length).toNat) B (by omega) (by omega) (by omega) (ufb _);refine⟨_,g _ _ _ s,rfl,?_⟩;rw[show((h.getD y.length)-(l.getD 0)).toNat=(h.getD y.length).toNat-(l.getD 0).toNat from by omega];exact m;rename_i q;split at b<;>try trivial
 cases b;obtain⟨o,p,z,rfl⟩:=D;have s:(Instr.sliceBounds Z y.length a (l.map (.int kl)) ((U q).map (.int kh)) ((U q).map (.int kk))).run P w=.ok ((l.getD 0).toNat,q.toNat,q.toNat) w:=by
  have r:q<=(a:Int):=by omega
  have i:0<=q:=by omega
  cases l with
  |none=>simp[Instr.sliceBounds,nt i r,nt (P:=P) (w:=w) (y:=q.toNat) i (by omega)]
  |some d=>simp at o p;simp[Instr.sliceBounds,nt i r,nt (P:=P) (w:=w) (y:=q.toNat) i (by omega),nt (P:=P) (w:=w) (y:=q.toNat) o (by omega)]
 have m:=qbh (lo:=(l.getD 0).toNat) (mx:=q.toNat) B (by omega) (by omega) (ufb _) (by omega);refine⟨_,g _ _ _ s,rfl,?_⟩;have v:((y.drop (l.getD 0).toNat).take (q-(l.getD 0)).toNat).length=q.toNat-(l.getD 0).toNat:=by simp;omega
 refine⟨_,by rw[v],?_⟩;rw[show(q-(l.getD 0)).toNat=q.toNat-(l.getD 0).toNat from by omega];exact m
def AZ:{ps:List PT} -> {cs:List AC} -> {x:ap ps} -> {vs:List Value}->jM ps cs=U x->bI P w F R (cs.map .c) vs->dm P w F ps x vs
 |[],[],_,[],_,_=>rfl
 |.d t::r,a::s,x,v::vs,h,b=>by simp only[jM]at h;split at h;rename_i y z n e;cases h;exact⟨v,vs,rfl,tR n b.1,AZ e b.2⟩;cases h
 |.ptr t::r,.sptr cs::s,x,v::vs,h,b=>by simp only[jM]at h;split at h;rename_i y q z n e;cases h;obtain⟨_,ad,i,k,l⟩:=b.1;exact⟨v,vs,rfl,⟨ad,i,k,(aG.dec t n l).1⟩,AZ e b.2⟩;cases h
 |.pfn ps K::r,.sptr [.fv D E g]::s,x,v::vs,h,b=>by
  simp only[jM]at h;split at h<;>try trivial
  rename_i C;split at h<;>try trivial
  rename_i B;split at h<;>try trivial
  rename_i y e;cases h;subst C;subst B;obtain⟨_,ad,i,k,⟨⟨u,l,_,m⟩,_⟩⟩:=b.1;exact⟨v,vs,rfl,⟨ad,u,i,k,l,m⟩,AZ e b.2⟩
 |.pfn _ _::_,.sptr [.fv _ _ _]::_,_,[],_,b=>b.elim
 |.pk f::r,.sptr [.fn H []]::s,x,v::vs,h,b=>by
  simp only[jM]at h;split at h<;>try trivial
  rename_i A;split at h<;>try trivial
  rename_i y e;cases h;subst A;obtain⟨_,ad,i,k,⟨⟨u,l,_,m⟩,_⟩⟩:=b.1;obtain⟨G,rfl,o,_⟩:=m;have p:=Array.size_eq_zero_iff.mp o;subst p;exact⟨v,vs,rfl,⟨ad,i,k,l⟩,AZ e b.2⟩
 |.pk _::_,.sptr [.fn _ []]::_,_,[],_,b=>b.elim
 |[],[],_,_::_,_,b=>b.elim
 |[],_::_,_,_,h,_=>by simp[jM]at h
 |_::_,[],_,_,h,_=>by simp[jM]at h
 |.d _::_,_::_,_,[],_,b=>b.elim
 |.ptr _::_,.sptr _::_,_,[],_,b=>b.elim
 |.fn _ _::_,_::_,_,_,h,_=>by simp[jM]at h
 |.pf _ _::_,_::_,_,_,h,_=>by simp[jM]at h
 |.ptr _::_,.dead::_,_,_,h,_ | .ptr _::_,.int _ _::_,_,_,h,_ | .ptr _::_,.bool _::_,_,_,h,_ | .ptr _::_,.str _::_,_,_,h,_ | .ptr _::_,.nil::_,_,_,h,_
 |.ptr _::_,.sl _ _::_,_,_,h,_ | .ptr _::_,.slx _ _::_,_,_,h,_ | .ptr _::_,.own _::_,_,_,h,_ | .ptr _::_,.ptr _ _::_,_,_,h,_ | .ptr _::_,.fn _ _::_,_,_,h,_ | .ptr _::_,.fv _ _ _::_,_,_,h,_ | .ptr _::_,.pv _ _ _ _::_,_,_,h,_ | .ptr _::_,.mp _::_,_,_,h,_ | .ptr _::_,.fs _ _::_,_,_,h,_=>by simp[jM]at h
def qns{t u:Ty}(h:t=u){x:t.q}(a:bJ w F t x v):bJ w F u (K7 h x) v:=by subst h;exact a
def Lf:{ps:List Ty} -> {b:List PT} -> {a:List AC} -> {f:aa ps->ap b}->lV ps b a=U f->(x:aa ps) -> {vs e:List Value}->fi w F ps x vs->bI P w F R (a.map .c) e->dm P w F b (f x) (vs++e)
 |[],b,a,f,h,x,vs,e,l,k=>by simp only[lV]at h;split at h;rename_i u i;cases h;cases l;exact AZ i k;cases h
 |t::r,.d s::b,a,f,h,x,vs,e,l,k=>by simp only[lV]at h;split at h;rename_i p;split at h;rename_i g o;cases h;obtain⟨v,m,rfl,i,n⟩:=l;exact⟨v,m++e,rfl,qns p i,Lf o x.2 n k⟩;cases h;cases h
 |_::_,[],_,_,h,_,_,_,_,_=>by simp[lV]at h
 |_::_,.ptr _::_,_,_,h,_,_,_,_,_=>by simp[lV]at h
 |_::_,.fn _ _::_,_,_,h,_,_,_,_,_=>by simp[lV]at h
 |_::_,.pf _ _::_,_,_,h,_,_,_,_,_=>by simp[lV]at h
 |_::_,.pfn _ _::_,_,_,h,_,_,_,_,_=>by simp[lV]at h
 |_::_,.pk _::_,_,_,h,_,_,_,_,_=>by simp[lV]at h
def EZ{a:List AC}(b:vs.length=a.length)(h:aS P w F R a (λj u=>vs[j]?= U u)):bI P w F R (a.map .c) vs:=by
 induction a generalizing vs with
 |nil=>cases vs with
  |nil=>trivial
  |cons _ _=>simp at b
 |cons c r i=>cases vs with
  |nil=>simp at b
  |cons v vs=>obtain⟨⟨u,d,e,f⟩,g⟩:=h;simp at d;subst d;exact⟨⟨e,f⟩,i (by simpa using b) (by simpa using g)⟩
def Z3{b a:List Ty}(k:b=a){y:aa b}{e:Ending}{d f:World}{c:Nat->Prop}(h:iB d c b y e f):iB d c a (Fa k y) e f:=by subst k;exact h
def zkr{c a d b:List Ty}(h:c=a)(k:d=b){g:aa c->aa d}(e:lL P w F c d g v):lL P w F a b (AQ h k g) v:=by subst h;subst k;exact e
def dm.mono(a:∀ b,F b->F' b)(c:∀ b,F b->w'.heap[b]?= w.heap[b]?):{ps:List PT} -> {x:ap ps} -> {vs:List Value}->dm P w F ps x vs->dm P w' F' ps x vs
 |[],_,_,h=>h
 |p::_,_,_,⟨v,l,o,g,r⟩=>by
  refine⟨v,l,o,?_,dm.mono a c r⟩;cases p with
  |d t=>exact bJ.mono a c g
  |ptr t=>obtain⟨ad,i,e,k⟩:=g;refine⟨ad,i,a _ e,k.mono a c λj u _ s=>?_⟩;rw[<- s];exact ubd (by rw[th];exact c _ e)
  |fn ps m=>exact lL.mono a c g
  |pf ps m=>exact nH.mono a c g
  |pfn ps m=>obtain⟨ad,u,i,e,k,n⟩:=g;refine⟨ad,u,i,a _ e,?_,lL.mono a c n⟩;rw[<- k];exact ubd (by rw[th];exact c _ e)
  |pk f=>obtain⟨ad,i,e,k⟩:=g;refine⟨ad,i,a _ e,?_⟩;rw[<- k];exact ubd (by rw[th];exact c _ e)
def qqc(s:io P Γ){t x:List Ty}{c:AC}{g:aa t->aa x}{n:List Prop}(h:Le Γ t x c=U (g,n))(N:az n)(B:bx P w F R c v)(_hR:∀ id u,R id u->True):lL P w F t x g v:=by
 unfold Le at h;split at h<;>try trivial
 split at h<;>try trivial
 rename_i o;split at h<;>try trivial
 rename_i l;obtain⟨rfl,_⟩:=h;exact zkr o l B;rename_i f d;split at h<;>try trivial
 rename_i E k;split at h<;>try trivial
 rename_i l;split at h<;>try trivial
 rename_i Q m;cases h;obtain⟨i,rfl,G,H⟩:=B;obtain⟨S,T⟩:=s.1 f E k;refine⟨f,i,rfl,S,λW D A K z y C=>?_⟩;have r:=C.wf;have L:=aS.mono (λb a=>(A b a).1) (λb a=>(A b a).2) (λ_ _ _=>uT) d (g':=λj u=>i.toList[j]?= U u) (λj u O=>by simpa using O) H;have p:=Lf m z C (EZ (by simpa using G) L);have:=T W D (Q z) (y++i.toList) K p (N z r);have M:(y++i.toList).toArray=y.toArray++i:=by simp
 rw[M]at this;exact this.mono λe w2 o=>Z3 l o
def zks{c a d b:List Ty}(h:c=a)(k:d=b){g:aa c->aa d}{D:aa c->Prop}(e:nH P w F c d g D v):nH P w F a b (AQ h k g) (Td h D) v:=by subst h;subst k;exact e
def qqd(p:io P Γ){i r:List Ty}{c:AC}{x:(aa i->aa r)×(aa i->Prop)}(h:Lg Γ i r c=U x)(y:bx P w F R c v):nH P w F i r x.1 x.2 v:=by
 unfold Lg at h;split at h<;>try trivial
 split at h<;>try trivial
 rename_i n;split at h<;>try trivial
 rename_i l;cases h;exact zks n l y;rename_i f d;split at h<;>try trivial
 rename_i B k;split at h<;>try trivial
 rename_i l;split at h<;>try trivial
 rename_i N m;cases h;obtain⟨g,rfl,C,D⟩:=y;obtain⟨O,Q⟩:=p.1 f B k;refine⟨f,g,rfl,O,λS A t E z s H M=>?_⟩;have G:=aS.mono (λb a=>(t b a).1) (λb a=>(t b a).2) (λ_ _ _=>uT) d (g':=λj u=>g.toList[j]?= U u) (λj u L=>by simpa using L) D;have o:=Lf m z M (EZ (by simpa using C) G);have:=Q S A (N z) (s++g.toList) E o H;have K:(s++g.toList).toArray=s.toArray++g:=by simp
 rw[K]at this;exact this.mono λe T n=>Z3 l n
def pI(d:io P Γ):{ps:List PT} -> {xs:List AV} -> {x:ap ps} -> {n:List Prop} -> {vs:List Value}->lm Γ ps xs=U (x,n)->az n->bI P w F R xs vs->dm P w F ps x vs
 |[],[],_,_,[],_,_,_=>rfl
 |p::r,a::s,x,n,v::vs,h,f,c=>by
  simp only[lm]at h;split at h;rename_i y o z t b m;cases h;refine⟨v,vs,rfl,?_,pI d m (lj.1 f).2 c.2⟩;unfold TM at b;split at b;split at b<;>try trivial
  rename_i e;obtain⟨rfl,_⟩:=b;exact tR e c.1;split at b<;>try trivial
  rename_i e;obtain⟨rfl,_⟩:=b;obtain⟨_,g,i,k,l⟩:=c.1;exact⟨g,i,k,(aG.dec _ e l).1⟩;exact qqc d b (lj.1 f).1 c.1.2 (λ_ _ _=>uT);split at b<;>try trivial
  rename_i e;obtain⟨rfl,_⟩:=b;exact qqd d e c.1.2;cases b;cases h
 |[],[],_,_,_::_,_,_,c=>c.elim
 |_::_,_::_,_,_,[],_,_,c=>c.elim
 |[],_::_,_,_,_,h,_,_=>by simp[lm]at h
 |_::_,[],_,_,_,h,_,_=>by simp[lm]at h
def bI.append{b c:List AV}{a:List Value}(h:bI P w F R b a)(k:bI P w F R c vs):bI P w F R (b++c) (a++vs):=by
 induction b generalizing a with
 |nil=>cases a with
  |nil=>exact k
  |cons _ _=>exact h.elim
 |cons x b d=>cases a with
  |nil=>exact h.elim
  |cons u a=>exact⟨h.1,d h.2⟩
def K5(e:io P Γ){k:Int}{args:List AV}(m:∀ b,F b->b<w.heap.size)(z:bI P w F R args vs):{es:List (Int×Nat)} -> {rs:List Ty} -> {y:aa rs} -> {n:List Prop} ->
  pC Γ k args es=U ⟨rs,y,n⟩->az n->∃ f,jS (es.find? (λx=>x.1==k))=.func (.func f) #[] #[]/\(∀ args o,(callFunc f args).run P o=.ok (.enter f args) o)/\Calls P f vs.toArray w (iB w F rs y)
 |[],_,_,_,h,_=>by simp[pC]at h
 |(i,f)::es,rs,y,n,h,A=>by
  simp only[pC]at h;split at h<;>try trivial
  rename_i p u;split at h<;>try trivial
  rename_i x G D;obtain⟨K,L⟩:=e.1 f p u;have a:k=i->az (G++p.ok x)->∃ c,jS (((i,f)::es).find? (λx=>x.1==k))=.func (.func c) #[] #[]/\(∀ args o,(callFunc c args).run P o=.ok (.enter c args) o)/\Calls P c vs.toArray w (iB w F p.rs (p.f x)):=λd C=>by obtain⟨g,l⟩:=lj.1 C;refine⟨f,by simp[d,jS],K,L w F x vs m (pI e D g z) l⟩
  split at h;injection h with h
  cases h;obtain⟨g,l⟩:=lk.1 A;exact a g l;split at h<;>try trivial
  rename_i B _ H N M E;split at h<;>try trivial
  rename_i v;cases h;subst v;obtain⟨g,l⟩:=lk.1 A;by_cases d:k=i;obtain⟨c,r,s,t⟩:=a d (g d);refine⟨c,r,s,?_⟩;have:(k==i)=true:=by simp[d]
  rw[this];exact t;obtain⟨c,r,s,t⟩:=K5 e m z E (l d);refine⟨c,?_,s,?_⟩;rw[<- r];have:(i==k)=false:=by rw[ubw];omega
  simp[this];have:(k==i)=false:=by rw[ubw];exact d
  rw[this];exact t
def qdn(l:io P Γ){k:Int}{e:List AC}{args:List AV}(A:w.heap[b]?= U (.cells arr ety (0,0)))(Q:arr.size=e.length)(C:∀ u∈arr,u.oneCell'=Z)(t:aS P w F R e (λj u=>arr[j]?= U u))(s:bI P w F R args vs):{es:List (Int×Nat)} -> {T:Ty} -> {z:T.q} -> {n:List Prop} ->
  D7 Γ k e args es=U ⟨T,z,n⟩->az n->e.length=T.size/\∃ f,jS (es.find? (λx=>x.1==k))=.func (.func f) #[] #[]/\(∀ args D,(callFunc f args).run P D=.ok (.enter f args) D) /\
   Calls P f (Value.pointer (U ⟨b,0,V⟩)::vs).toArray w λK w'=>∃ (u:Value) (p:List Value),K=.returned u/\p.length=T.size/\w'=w.setRow b p.toArray/\aG w F T z (λj u=>p[j]?= U u)
 |[],_,_,_,h,_=>by simp[D7]at h
 |(i,f)::es,T,z,n,h,B=>by
  simp only[D7]at h;split at h<;>try trivial
  rename_i m ps g o;have r:=l.2 f _ o;split at h<;>try trivial
  rename_i x y v S;have c:e.length=m.size:=by have:=mN m v;simp at this;omega
  have W:=(aG.dec m v t).1;have hy:=nY S s;have a:=r.calls w F b ety arr x y vs A (by omega) C W hy;split at h;injection h with h
  cases h;have d:k=i:=B;exact⟨c,f,by simp[d,jS],r.enters,a⟩;split at h<;>try trivial
  rename_i L _ T' z' ms O;split at h<;>try trivial
  rename_i N;subst N;cases h;by_cases d:k=i;refine⟨c,f,by simp[d,jS],r.enters,?_⟩;have:(k==i)=true:=by simp[d]
  rw[this];exact a;obtain⟨_,M,E,G,H⟩:=qdn l A Q C t s O (B d);refine⟨c,M,?_,G,?_⟩;rw[<- E];have:(i==k)=false:=by rw[ubw];omega
  simp[this];have:(k==i)=false:=by rw[ubw];exact d
  rw[this];exact H
def qnq(e:io P Γ){x:AV}{args:List AV}{r:AV}{n:List Prop}(h:K6 Γ x args=U (r,n))(p:az n)(c:∀ b,F b->b<w.heap.size)(s:aK P w F R x vx)(o:bI P w F R args vs):∃ f a,vx=.func (.func f) #[] a/\(∀ args G,(callFunc f args).run P G=.ok (.enter f args) G) /\
   ∃ rs y,r=lq rs y/\Calls P f (vs.toArray++a) w (iB w F rs y):=by
 unfold K6 at h;split at h<;>try trivial
 rename_i f a;obtain⟨_,i,rfl,u,v⟩:=s;unfold SZ at h;split at h<;>try trivial
 rename_i t A;split at h<;>try trivial
 rename_i y N d;cases h;obtain⟨l,m⟩:=e.1 f t A;refine⟨f,i,rfl,l,t.rs,t.f y,rfl,?_⟩;have C:=pI e d (lj.1 p).1 (o.append (EZ (vs:=i.toList) (by simpa using u) (by simpa using v)));have:=m w F y (vs++i.toList) c C (lj.1 p).2;have K:(vs++i.toList).toArray=vs.toArray++i:=by simp
 rw[K]at this;exact this;rename_i L rs g;split at h<;>try trivial
 rename_i y d;cases h;have B:=s.2;obtain⟨f,a,rfl,l,m⟩:=B;exact⟨f,a,rfl,l,rs,g y,rfl,m w F (λb z=>⟨z,rfl⟩) c y vs (nY d o)⟩;rename_i L rs g D;split at h<;>try trivial
 rename_i y d;cases h;have B:=s.2;obtain⟨f,a,rfl,l,m⟩:=B;exact⟨f,a,rfl,l,rs,g y,rfl,m w F (λb z=>⟨z,rfl⟩) c y vs p (nY d o)⟩;rename_i M k;split at h<;>try trivial
 rename_i rs y O d;cases h;have E:=s.2;simp only[bx]at E;obtain⟨f,u,v,H⟩:=K5 e c o d p;rw[u]at E;exact⟨f,#[],E,v,rs,y,rfl,by simpa using H⟩
end
section
variable {P:Program} {B:Nat} {o:Oper} {a:Act} {w w':World} {F F':Nat->Prop} {γ γ':Nat->Value} {M m:aX} {R:Nat->Value->Prop} {Γ:Gm}
def dn{S:Sem Value}(b:execOp a.eval o=(do pure (.value (<- S)):Sem Next))(c:S.run P w=.ok u w'):(execOp a.eval o).run P w=.ok (.value u) w':=by rw[b];simp[c]
def zjj{p:Bool}{x y r:AV}(h:Cw p x y=U r)(a:p=Z->aK P w F R x u)(b:p=Y->aK P w F R y v):aK P w F R r (if p then u else v):=by
 unfold Cw at h;split at h<;>try trivial
 cases h;cases p;exact⟨(b rfl).1,(b rfl).2⟩;exact⟨(a rfl).1,(a rfl).2⟩;split at h<;>try trivial
 rename_i c;subst c;cases h;cases p;exact⟨(b rfl).1,(b rfl).2⟩;exact⟨(a rfl).1,(a rfl).2⟩
def Yf:{r:List AV} -> {x y:Int} -> {vs:List Value}->uK k x r=U y->inR k x->bI P w F R r vs->(vs.foldlM (m:=Sem) Builtin.min2 (.int k x)).run P w=.ok (.int k y) w/\inR k y
 |[],x,y,[],h,d,_=>by simp only[uK,ucl]at h;subst h;exact⟨by simp,d⟩
 |.c (.int l z)::r,x,y,v::vs,h,d,a=>by
  simp only[uK]at h;split at h<;>try trivial
  rename_i g;subst g;obtain⟨⟨_,rfl,i⟩,a⟩:=a;have b:inR k (if z<x then z else x):=by split<;>assumption
  obtain⟨e,f⟩:=Yf h b a;refine⟨?_,f⟩;simp[Builtin.min2,e]
 |[],_,_,_::_,_,_,a=>a.elim
 |_::_,_,_,[],_,_,a=>a.elim
 |.dead::_,_,_,_::_,h,_,_ | .agg _::_,_,_,_::_,h,_,_ | .tup _::_,_,_,_::_,h,_,_ | .optr _ _ _ _::_,_,_,_::_,h,_,_ | .aptr _ _ _::_,_,_,_::_,h,_,_ | .maybe _ _ _::_,_,_,_::_,h,_,_=>by simp[uK]at h
 |.c .dead::_,_,_,_::_,h,_,_ | .c (.bool _)::_,_,_,_::_,h,_,_ | .c (.str _)::_,_,_,_::_,h,_,_ | .c .nil::_,_,_,_::_,h,_,_ | .c (.sl _ _)::_,_,_,_::_,h,_,_
 |.c (.slx _ _)::_,_,_,_::_,h,_,_ | .c (.own _)::_,_,_,_::_,h,_,_ | .c (.ptr _ _)::_,_,_,_::_,h,_,_ | .c (.sptr _)::_,_,_,_::_,h,_,_ | .c (.fn _ _)::_,_,_,_::_,h,_,_ | .c (.fv _ _ _)::_,_,_,_::_,h,_,_ | .c (.pv _ _ _ _)::_,_,_,_::_,h,_,_ | .c (.mp _)::_,_,_,_::_,h,_,_ | .c (.fs _ _)::_,_,_,_::_,h,_,_=>by simp[uK]at h
def XZ:{r:List AV} -> {x y:Int} -> {vs:List Value}->uJ k x r=U y->inR k x->bI P w F R r vs->(vs.foldlM (m:=Sem) Builtin.max2 (.int k x)).run P w=.ok (.int k y) w/\inR k y
 |[],x,y,[],h,d,_=>by simp only[uJ,ucl]at h;subst h;exact⟨by simp,d⟩
 |.c (.int l z)::r,x,y,v::vs,h,d,a=>by
  simp only[uJ]at h;split at h<;>try trivial
  rename_i g;subst g;obtain⟨⟨_,rfl,i⟩,a⟩:=a;have b:inR k (if x<z then z else x):=by split<;>assumption
  obtain⟨e,f⟩:=XZ h b a;refine⟨?_,f⟩;simp[Builtin.max2,e]
 |[],_,_,_::_,_,_,a=>a.elim
 |_::_,_,_,[],_,_,a=>a.elim
 |.dead::_,_,_,_::_,h,_,_ | .agg _::_,_,_,_::_,h,_,_ | .tup _::_,_,_,_::_,h,_,_ | .optr _ _ _ _::_,_,_,_::_,h,_,_ | .aptr _ _ _::_,_,_,_::_,h,_,_ | .maybe _ _ _::_,_,_,_::_,h,_,_=>by simp[uJ]at h
 |.c .dead::_,_,_,_::_,h,_,_ | .c (.bool _)::_,_,_,_::_,h,_,_ | .c (.str _)::_,_,_,_::_,h,_,_ | .c .nil::_,_,_,_::_,h,_,_ | .c (.sl _ _)::_,_,_,_::_,h,_,_
 |.c (.slx _ _)::_,_,_,_::_,h,_,_ | .c (.own _)::_,_,_,_::_,h,_,_ | .c (.ptr _ _)::_,_,_,_::_,h,_,_ | .c (.sptr _)::_,_,_,_::_,h,_,_ | .c (.fn _ _)::_,_,_,_::_,h,_,_ | .c (.fv _ _ _)::_,_,_,_::_,h,_,_ | .c (.pv _ _ _ _)::_,_,_,_::_,h,_,_ | .c (.mp _)::_,_,_,_::_,h,_,_ | .c (.fs _ _)::_,_,_,_::_,h,_,_=>by simp[uJ]at h
def I2:{u:List (Nat×Ob)} -> {m M:aX}->(∀ i y,m i=U y->M i=U y)->∀ i y,aB m u i=U y->aB M u i=U y
 |[],_,_,h=>h
 |(id,c)::r,m,M,h=>I2 (u:=r) λi y a=>by by_cases b:i=id;subst b;rw[kX]at a |-;exact a;rw[gL _ _ b]at a |-;exact h i y a
def V3{id:Nat}{K:TypeId}{A a r:List AC}{u:List (Nat×Ob)}(D:MemOK P B w F γ M)(N:∀ b,F b->b<w.heap.size)(f:∀ i y,m i=U y->M i=U y)(s:m id=U (.box e A))(h:lB m A=U (a,u))(o:aB m u id=U (.box K r)):
  ∃ F' b,γ id=.pointer (U ⟨b,0,V⟩)/\F' b/\Step B w F γ M w F' γ (aB M (u++[(id,.fbox a)]))/\MemOK P B w F' γ (aB M (u++[(id,.fbox a)])) /\
   aS P w F' (av (aB M (u++[(id,.fbox a)])) γ) a (λj u=>w.cell? ⟨b,j,V⟩=U u):=by
 obtain⟨b,H,p,n,S,T,W,L⟩:=D.ob id _ (f _ _ s);obtain⟨l,G,E,t1,l1,Q⟩:=CR D N (dM.of f) h L;have k:=I2 f _ _ o;obtain⟨R,z,C,f2,f3,f4,f5,f6⟩:=E.ob id _ k;rw[p]at C;simp at C;have g:Step B w l γ (aB M u) w (λc=>l c\/c=b) γ (upd (aB M u) id (.fbox a)):=
  ⟨λc h=>.inl h,λ_ _=>rfl,qm k (by simp),λ_ _=>rfl,rfl,rfl,rfl,ufb _,λc h=>h.elim (G.bd c) (λh=>by subst h;exact(uaf.1 n).1),λc h=>h.elim .inl (λh=>.inr (by omega))⟩
 have d:aS P w (λc=>l c\/c=b) (av (upd (aB M u) id (.fbox a)) γ) a (λj u=>w.cell? ⟨b,j,V⟩=U u):=
  (g.repCL Q).turn λj v _ O=>by rw[xg n];exact O
 have t:MemOK P B w (λc=>l c\/c=b) γ (upd (aB M u) id (.fbox a)):=by refine E.change k (by simp) g.hF g.hw (λc h=>h.elim) (λc _ x=>⟨rfl,λh=>h.elim (λh=>h) (λh=>absurd ⟨_,p,h.symm⟩ x)⟩) ?_;exact⟨b,p,Or.inr rfl,d⟩
 refine⟨λc=>l c\/c=b,b,p,Or.inr rfl,?_,?_,?_⟩;rw[iP];exact G.trans g;rw[iP];exact t;rw[iP];exact d
def H7:{xs:List AV} -> {cs:List AC} -> {u:List (Nat×Ob)} -> {m M:aX} -> {F:Nat->Prop} -> {vs:List Value}->MemOK P B w F γ M->(∀ b,F b->b<w.heap.size)->(∀ i y,m i=U y->M i=U y)->zu m xs=U (cs,u)->bI P w F (av M γ) xs vs ->
  ∃ F',Step B w F γ M w F' γ (aB M u)/\MemOK P B w F' γ (aB M u)/\bI P w F' (av (aB M u) γ) (cs.map .c) vs
 |[],cs,u,m,M,F,[],o,s,l,h,a=>by obtain⟨rfl,rfl⟩:=h;exact⟨F,Step.refl s,o,uT⟩
 |x::r,cs,u,m,M,F,v::vs,o,s,l,h,a=>by
  unfold zu at h;split at h;rename_i f;cases f;rename_i id r' f;cases f;split at h<;>try trivial
  rename_i e H k;split at h<;>try trivial
  rename_i W u1 n;split at h<;>try trivial
  rename_i e2 cs2 t;split at h<;>try trivial
  rename_i y S A;cases h;obtain⟨T,b,K,L,g,Q,D⟩:=V3 o s l k n t;obtain⟨p,d,C,E⟩:=H7 Q g.bd (I2 l) A (DD g.hF g.hw g.hR a.2);obtain⟨_,R,G,rfl⟩:=a.1;have N:R=b:=by unfold av at G;rw[l _ _ k]at G;simp only[K,ubt,ucl,Addr.mk.injEq,and_true]at G;exact G
  subst N;rw[iP];refine⟨p,g.trans d,C,⟨rfl,⟨R,0,V⟩,rfl,d.hF _ L,d.repCL (D.turn λj u _ O=>?_)⟩,E⟩;rw[kq,uey];exact O;rename_i H k;split at h<;>try trivial
  rename_i y S A;cases h;obtain⟨b,K,L,D⟩:=L4 o (l _ _ k) a.1.2;obtain⟨p,d,C,E⟩:=H7 o s l A a.2;subst K;refine⟨p,d,C,⟨rfl,⟨b,0,V⟩,rfl,d.hF _ L,d.repCL (D.turn λj u _ O=>?_)⟩,E⟩;rw[kq,uey];exact O;rename_i c r' _ f;cases f;split at h<;>try trivial
  rename_i y u1 n;split at h<;>try trivial
  rename_i z S A;cases h;obtain⟨T,g,Q,t1,D⟩:=H6 o s (dM.of l) n a.1.2;obtain⟨p,d,C,E⟩:=H7 Q g.bd (I2 l) A (DD g.hF g.hw g.hR a.2);rw[iP];exact⟨p,g.trans d,C,⟨a.1.1,bx.mono d.hF d.hw d.hR _ D⟩,E⟩;cases h
 |[],_,_,_,_,_,_::_,_,_,_,_,a=>a.elim
 |_::_,_,_,_,_,_,[],_,_,_,_,a=>a.elim
def qnr{a:List AC}(h:bI P w F R (a.map .c) vs):vs.length=a.length/\aS P w F R a (λj u=>vs[j]?= U u):=by
 induction a generalizing vs with
 |nil=>cases vs with
  |nil=>exact⟨rfl,uT⟩
  |cons _ _=>exact h.elim
 |cons c r e=>cases vs with
  |nil=>exact h.elim
  |cons v vs=>obtain⟨b,d⟩:=e h.2;exact⟨by simp[b],⟨v,rfl,h.1.1,h.1.2⟩,by simpa using d⟩
def cy.take{t:Ty}{l:List t.q}(h:cy w F t l xs)(i:Nat):cy w F t (l.take i) (xs.take (i*t.size)):=by
 intro j x a;rw[ub2]at a;split at a;rename_i b;refine(h j x a).mono (λ_ h=>h) (λ_ _=>rfl) λm u d c=>?_;have:j*t.size+t.size<=i*t.size:=by rw[<- uex];exact ube _ b
 rw[ub2,ufw (by omega)];exact c;cases a
def cy.drop{t:Ty}{l:List t.q}(h:cy w F t l xs)(i:Nat):cy w F t (l.drop i) (xs.drop (i*t.size)):=by intro j x a;rw[ub1]at a;refine(h (i+j) x a).mono (λ_ h=>h) (λ_ _=>rfl) λm u c b=>?_;rw[ub1,<- b,ufd,uei]
def zl3{a:String}(h:GK P a ty=U f)(u:Value)(d:Array Value):(callMethod (.iface ty u) a d).run P w=(callFunc f (#[u]++d)).run P w:=by
 unfold GK at h
 split at h<;>try (cases h;done)
 rename_i i r m o
 split at h<;>try (cases h;done)
 rename_i p b
 split at h<;>try (cases h;done)
 rename_i g l
 split at h<;>try (cases h;done)
 rename_i n
 simp at h
 subst h
 have c:p.path = #[]:=by simpa using n
 have e:(method (P.types.size+Made.depth-1+1) ty u a).run P w=.ok (g,u) w:=by simp[method,typeInfo,m,b,c,l,follow,receiverAt,ud6 o,Place.get]
 have k:P.types.size+Made.depth-1+1=P.types.size+Made.depth:=by unfold Made.depth;omega
 rw[k]at e
 simp only[callMethod,uet,run_program,ucm]
 rw[e]
 simp
def Nj{a:String}{k:Int}:{es b:List (Int×Nat)} -> {p:Int×Nat}->BQ P a es=U b->b.find? (λx=>x.1==k)=U p->∃ ty,dd es k=U ty/\GK P a ty=U p.2
 |[],b,p,h,c=>by simp only[BQ,ucl]at h;subst h;cases c
 |(m,ty)::es,b,p,h,c=>by
  simp only[BQ]at h;split at h<;>try trivial
  rename_i f e o r;cases h;cases d:(m==k);have g:e.find? (λx=>x.1==k)=U p:=by simpa[d]using c
  obtain⟨i,l,n⟩:=Nj r g;refine⟨i,?_,n⟩;unfold dd at l |-;simpa[d]using l;have s:(m,f)=p:=by simpa[d]using c
  subst s;exact⟨ty,by simp[dd,d],o⟩
def Tb{k:Int}{args:List AV}:{es:List (Int×Nat)} -> {rs:List Ty} -> {y:aa rs} -> {n:List Prop}->pC Γ k args es=U ⟨rs,y,n⟩->az n->∃ p,es.find? (λx=>x.1==k)=U p
 |[],_,_,_,h,_=>by simp[pC]at h
 |(i,f)::es,rs,y,n,h,c=>by
  by_cases a:k=i;exact⟨(i,f),by simp[a]⟩;have b:(i==k)=false:=by rw[ubw];omega
  simp only[pC]at h;split at h<;>try trivial
  split at h<;>try trivial
  split at h;injection h with h
  cases h;exact absurd (lk.1 c).1 a;split at h<;>try trivial
  rename_i e _ m s r l;split at h<;>try trivial
  cases h;obtain⟨o,d⟩:=lk.1 c;obtain⟨p,g⟩:=Tb l (d a);exact⟨p,by simpa[b]using g⟩
def qzq(h:BS P t=Z):∃ b,P.underlying t=U (.interface b):=by unfold BS at h;split at h;rename_i b a;exact⟨b,a⟩;cases h
def qzr{b:Array (String×TypeId)}(a:P.underlying t=U (.interface b)):(Op.equalIn (d+1) t (.iface ty u) .nilIface).run P w=.ok Y w:=by simp[Op.equalIn,ud6 a]
def qzs{b:Array (String×TypeId)}(a:P.underlying t=U (.interface b)):(Op.equalIn (d+1) t .nilIface .nilIface).run P w=.ok Z w:=by simp[Op.equalIn,ud6 a]
def Gn{a:List (Int×Nat)}{t:Ty}{x:Int×t.q}(h:bx P w F R (.ic a t x) v):(∃ ty u,dd a x.1=U ty/\v=.iface ty u/\bJ w F t x.2 u)\/(dd a x.1=V/\v=.nilIface):=by
 rcases h with ⟨ty,u,b,c,d,e,f⟩|⟨b,c⟩
 exact .inl ⟨ty,u,b,c.symm,d,e,f⟩;exact .inr ⟨b,c.symm⟩
def uR{d:Nat}{size:Nat}(h:w.ownsRow B e size v n xs)(f:∀ g,v.ownBlock=U g->d<=g):w.ownsRow d e size v n xs:=by refine⟨h.1,h.2.imp id ?_⟩;rintro⟨g,b,c,rfl,_,a⟩;exact⟨g,b,c,rfl,f g rfl,a⟩
def ziv{a:Nat}{h i:TypeId}{d f:Ty}{l:List d.q}{x:List f.q}(p:MemOK P B w F γ M)(c:a≠b)(k:M a=U (.arr h d l))(m:M b=U (.arr i f x)):
  ∀ g,(γ b).ownBlock=U g->(γ a).ownBlock≠U g:=λg o n=>p.apart b a _ _ g (λe=>c e.symm) m k (.inl o) (.inl n)
def zlu{r:Row}{args:List AV}{e:Eff}(C:DX P f r)(N:MemOK P B w F γ M)(hb:∀ b,F b->b<w.heap.size)(hB:B<=w.heap.size)(s:∀ i y,m i=U y->M i=U y)(hd:m d=V->M d=V)(h:OY r d args m=U e)(hn:az e.need)(hr:bI P w F (av M γ) args vs):
  (∀ as w,(callFunc f as).run P w=.ok (.enter f as) w)/\Calls P f vs.toArray w λen w'=>∃ u γ',en=.returned u/\Step B w F γ M w' F γ' (aB M e.wr)/\MemOK P B w' F γ' (aB M e.wr)/\aK P w' F (av (aB M e.wr) γ') e.v u:=by
 unfold OY at h;split at h<;>try trivial
 rename_i e0 T D a H;split at h<;>try trivial
 rename_i t1 l hl;split at h<;>try trivial
 rename_i h1;subst h1;split at h<;>try trivial
 rename_i n;cases h
 match vs,hr with
 |[v1],⟨⟨_,L⟩,_⟩=>obtain⟨A,c,O,rfl,hc,hA,S,W,hxc⟩:=X9 N s hl L;refine⟨C.enters,(C.calls w l.length c A O hc (λe=>by rw[hA e];rfl) S hxc (CO W S) hn.1 hn.2).mono λen w2 hp=>?_⟩;obtain⟨v',rfl,p,k⟩:=hp;have E:=λb z=>p.block b (hb b z) (by simp);have R:=uR k λg hg=>uep hB (k.lt g hg).1;obtain⟨s1,m1⟩:=yv N hb hB (hd H) p R (λg hg=>(k.lt g hg).1) (cy.mono (λ_ h=>h) E W) n;exact⟨v',_,rfl,s1,m1,o7 (nj k)⟩
 rename_i e0 T D a i b H;split at h<;>try trivial
 rename_i e1 t1 l e2 o x hma hmb;split at h<;>try trivial
 rename_i h1;subst h1;split at h<;>try trivial
 rename_i h2;subst h2;split at h<;>try trivial
 rename_i he;obtain⟨n,rfl,rfl,hab⟩:=he;cases h;obtain⟨⟨h0,h0'⟩,hm1,h63,hby⟩:=hn
 match vs,hr with
 |[v1,v2,v3],⟨⟨_,L⟩,⟨_,hv2⟩,⟨_,hv3⟩,_⟩=>
  have t:=s _ _ hma;have G:=s _ _ hmb;have g1:=fV t (by simp) L;have g3:=fV G (by simp) hv3;have g2:=hv2.1;subst g1 g3 g2;obtain⟨j,rfl⟩:∃ j:Nat,i=j:=⟨i.toNat,by omega⟩;obtain⟨O,q1,q2,q3,q4⟩:=iT.of (N.ob a _ t) n;obtain⟨ns,r1,r2,r3,r4⟩:=iT.of (N.ob b _ G) n;have r1':=r1;rw[hm1]at r1';refine⟨C.enters,(C.calls w B l.length j (γ a) (γ b) O ns hB q1 r1' (ziv N hab t G) (by omega) q4 r4 h63 hby).mono λen w2 hp=>?_⟩;obtain⟨v',rfl,p,k,hbl⟩:=hp;have E:=λb z=>p.block b (hb b z) (λhe=>q2 b he.symm z);have K:cy w2 F o (je (j:Int) (cY rfl l) (cY rfl x)) (O.take (j*o.size)++ns++O.drop (j*o.size)):=by
   have hc:je (j:Int) (cY (rfl:o=o) l) (cY (rfl:o=o) x)=l.take j++x++l.drop j:=rfl;rw[hc];have n:(O.take (j*o.size)).length=(l.take j).length*o.size:=by rw[uc5,uc5,q1.1,udq (show j<=l.length by omega),udq (ube _ (show j<=l.length by omega))]
   refine cy.mono (λ_ h=>h) E (cy.append (cy.append (q3.take j) n r3) ?_ (q3.drop j));rw[ub6,ub6,n,r1.1,ufd]
  have Q:(je (j:Int) (cY (rfl:o=o) l) (cY (rfl:o=o) x)).length=l.length+1:=by show(l.take j++x++l.drop j).length=_;simp;omega
  rw[<- Q]at k;obtain⟨s1,m1⟩:=GM N hb hB t (hd H) p k (hbl.elim .inl (λh=>.inr (.inl h))) K n n;exact⟨v',_,rfl,s1,m1,o7 (nj k)⟩
end
section
variable {P:Program} {B:Nat} {o:Oper} {a:Act} {w w':World} {F F':Nat->Prop} {γ γ':Nat->Value} {M m:aX} {R:Nat->Value->Prop} {Γ:Gm}
def Ty.atom:Ty->Bool
 |.unit | .pair _ _=>Y
 |_=>Z
def rn{t:Ty}(a:t.atom=Z){b:List AC}{x:t.q}{r:List AC}(h:dec t b=U (x,r)):∃ c,b=c::r/\dec t [c]=U (x,[]):=by
 cases t with
 |unit=>cases a
 |pair _ _=>cases a
 |int k=>
  simp only[dec,rk]at h |-;split at h<;>try trivial
  split at h<;>try trivial
  cases h;exact⟨_,rfl,by simp[*]⟩
 |bool=>
  simp only[dec,rj]at h |-;split at h<;>try trivial
  cases h;exact⟨_,rfl,by simp⟩
 |str=>
  simp only[dec,rm]at h |-;split at h<;>try trivial
  cases h;exact⟨_,rfl,by simp⟩
 |sl e=>
  simp only[dec,rl]at h |-;split at h<;>try trivial
  split at h<;>try trivial
  rename_i a;subst a;cases h;exact⟨_,rfl,by simp⟩;split at h<;>try trivial
  rename_i a;subst a;cases h;exact⟨_,rfl,by simp⟩;cases h;exact⟨_,rfl,by simp⟩
 |fm d=>
  simp only[dec,tQ]at h |-;split at h<;>try trivial
  split at h<;>try trivial
  cases h;exact⟨_,rfl,by simp[*]⟩
 |ic d t=>
  simp only[dec,tP]at h |-;split at h<;>try trivial
  split at h<;>try trivial
  rename_i a;subst a;split at h<;>try trivial
  cases h;exact⟨_,rfl,by simp[*]⟩
 |fc f=>
  simp only[dec,tO]at h |-;split at h<;>try trivial
  split at h<;>try trivial
  cases h;exact⟨_,rfl,by simp[*]⟩;split at h<;>try trivial
  cases h;exact⟨_,rfl,by simp[*]⟩
def qrv{t:Ty}(a:t.atom=Z)(x:t.q):∃ c,enc t x=[c]:=by
 cases t with
 |unit=>cases a
 |pair _ _=>cases a
 |fc f=>cases f<;>exact⟨_,rfl⟩
 |_=>exact⟨_,rfl⟩
def ro:(t:Ty) -> {cs:List AC} -> {x:t.q} -> {r:List AC}->dec t cs=U (x,r)->∀ (k:Nat) (c:AC),(enc t x)[k]?= U c->∃ (b:AC) (d:Ty) (g:d.q),cs[k]?= U b/\d.atom=Z/\dec d [b]=U (g,[])/\enc d g=[c]
 |.unit,_,_,_,_,k,c,a=>by simp[enc]at a
 |.pair t u,cs,x,r,h,k,c,a=>by
  simp only[dec]at h;split at h<;>try trivial
  rename_i g v m;split at h<;>try trivial
  rename_i B A n;cases h;have D:=mN t m;rcases ueq k (enc t g).length with o|o
  simp only[enc]at a;rw[uaj o]at a;exact ro t m k c a;simp only[enc]at a;rw[uae o]at a;obtain⟨b,d,y,p,w⟩:=ro u n _ c a;refine⟨b,d,y,?_,w⟩;rw[gV]at p o;have z:v=cs.drop t.size:=dec_drop t m;rw[z,ub1]at p;rw[<- p];congr 1;omega
 |.int i,cs,x,r,h,k,c,a=>atomCase (t:=.int i) rfl h a
 |.bool,cs,x,r,h,k,c,a=>atomCase (t:=.bool) rfl h a
 |.str,cs,x,r,h,k,c,a=>atomCase (t:=.str) rfl h a
 |.sl e,cs,x,r,h,k,c,a=>atomCase (t:=.sl e) rfl h a
 |.fm l,cs,x,r,h,k,c,a=>atomCase (t:=.fm l) rfl h a
 |.ic l t,cs,x,r,h,k,c,a=>atomCase (t:=.ic l t) rfl h a
 |.fc f,cs,x,r,h,k,c,a=>atomCase (t:=.fc f) rfl h a
where
 atomCase {t:Ty} (s:t.atom=Z) {cs:List AC} {x:t.q} {r:List AC} (h:dec t cs=U (x,r)) {k:Nat} {c:AC} (a:(enc t x)[k]?= U c):∃ (b:AC) (d:Ty) (g:d.q),cs[k]?= U b/\d.atom=Z/\dec d [b]=U (g,[])/\enc d g=[c]:=by
  obtain⟨b,rfl,m⟩:=rn s h;obtain⟨C,n⟩:=qrv s x;rw[n]at a;cases k with
  |zero=>simp at a;subst a;exact⟨b,t,x,rfl,s,m,n⟩
  |succ k=>simp at a
 dec_drop:(t:Ty) -> {cs:List AC} -> {x:t.q} -> {r:List AC}->dec t cs=U (x,r)->r=cs.drop t.size
  |.unit,_,_,_,h=>by simp only[dec,ucl,ueh]at h;simp[Ty.size,h.2]
  |.pair t u,cs,x,r,h=>by
   simp only[dec]at h;split at h<;>try trivial
   rename_i g v m;split at h<;>try trivial
   rename_i B A n;cases h;rw[dec_drop u n,dec_drop t m,List.drop_drop];rfl
  |.int i,cs,x,r,h=>by obtain⟨b,rfl,_⟩:=rn (t:=.int i) rfl h;rfl
  |.bool,cs,x,r,h=>by obtain⟨b,rfl,_⟩:=rn (t:=.bool) rfl h;rfl
  |.str,cs,x,r,h=>by obtain⟨b,rfl,_⟩:=rn (t:=.str) rfl h;rfl
  |.sl e,cs,x,r,h=>by obtain⟨b,rfl,_⟩:=rn (t:=.sl e) rfl h;rfl
  |.fm l,cs,x,r,h=>by obtain⟨b,rfl,_⟩:=rn (t:=.fm l) rfl h;rfl
  |.ic l t,cs,x,r,h=>by obtain⟨b,rfl,_⟩:=rn (t:=.ic l t) rfl h;rfl
  |.fc f,cs,x,r,h=>by obtain⟨b,rfl,_⟩:=rn (t:=.fc f) rfl h;rfl
def TN{a b:Ty}{l:List b.q}{d:a.q}(c:a.atom=Z)(h:dec a [.sl b l]=U (d,[])):enc a d=[.sl b l]:=by
 cases a with
 |sl e=>
  simp only[dec,rl]at h;split at h<;>try trivial
  rename_i i;subst i;cases h;rfl
 |unit=>cases c
 |pair _ _=>cases c
 |int k=>simp[dec,rk]at h
 |bool=>simp[dec,rj]at h
 |str=>simp[dec,rm]at h
 |fm g=>simp[dec,tQ]at h
 |ic g t=>simp[dec,tP]at h
 |fc f=>simp[dec,tO]at h
def qqe{a:Ty}{c:a.q}(b:a.atom=Z)(h:dec a [.nil]=U (c,[])):∃ g,enc a c=[.sl g []]:=by
 cases a with
 |sl e=>simp only[dec,rl]at h;cases h;exact⟨e,rfl⟩
 |unit=>cases b
 |pair _ _=>cases b
 |int k=>simp[dec,rk]at h
 |bool=>simp[dec,rj]at h
 |str=>simp[dec,rm]at h
 |fm d=>simp[dec,tQ]at h
 |ic d t=>simp[dec,tP]at h
 |fc f=>simp[dec,tO]at h
def J1{a:Ty}{b:a.q}{d c:AC}(h:dec a [d]=U (b,[]))(i:enc a b=[c])(k:u.oneCell'=Z)(l:bx P w F R d u):bx P w F (λ_ _=>False) c u:=by have f:aG w F a b (λj v=>j=0/\v=u):=(aG.dec (P:=P) (R:=R) a h ⟨⟨u,⟨rfl,rfl⟩,k,l⟩,uT⟩).1;have e:=aG.enc (P:=P) (R:=λ_ _=>False) a b f;rw[i]at e;obtain⟨⟨m,⟨_,rfl⟩,_,g⟩,_⟩:=e;exact g
def I1(a:List Nat)(d:Nat)(O:Ob)(M:aX)(i:Nat):aB M (a.map (λk=>(k,Ob.gone))++[(d,O)]) i=if i=d then U O else if i∈a then U .gone else M i:=by
 rw[iP];show upd _ d O i=_;unfold upd;by_cases c:i=d;simp[c];simp only[ufx c]
 induction a generalizing M with
 |nil=>simp[aB]
 |cons k a e=>simp only[uel,aB];rw[e];by_cases b:i∈a;simp[b];simp only[ufx b,uej,b,or_false];unfold upd;rfl
def MemOK.mk_(h:MemOK P B w F γ M)(c:List Nat){O:Ob}(Q:M d=V)(G:∀ k∈c,∃ o,M k=U o)(hO:O ≠ .gone)(z:∀ b,F b->b<w.heap.size)(hB:B<=w.heap.size)(R:∀ b,F b->w'.heap[b]?= w.heap[b]?)(H:w'.os=w.os)(L:w'.tape=w.tape)(t:w'.output=w.output)(x:w.heap.size<=w'.heap.size)(l:∀ b,b<w.heap.size->(∀ k o,k∈c->M k=U o->¬ cg w o (γ k) b)->w'.heap[b]?= w.heap[b]?)(s:iA P B w' F (λ_ _=>False) v O)(D:∀ b,cg w' O v b->(∃ k o,k∈c/\M k=U o/\cg w o (γ k) b)\/w.heap.size<=b):
  Step B w F γ M w' F (dG γ d v) (aB M (c.map (λk=>(k,Ob.gone))++[(d,O)]))/\MemOK P B w' F (dG γ d v) (aB M (c.map (λk=>(k,Ob.gone))++[(d,O)])):=by
 have hdk:d ∉ c:=λn=>by obtain⟨o,r⟩:=G d n;rw[Q]at r;cases r
 have N:∀ i u,av M γ i u->av (aB M (c.map (λk=>(k,Ob.gone))++[(d,O)])) (dG γ d v) i u:=λi u y=>by unfold av at y |-;rw[I1];by_cases a:i=d;subst a;rw[Q]at y;exact y.elim;rw[ufx a];by_cases n:i∈c;simp[n];rw[ufx n,ga _ _ a];exact y
 refine⟨⟨λ_ h=>h,R,N,λb f=>?_,H,L,t,x,λb f=>ucb (z b f) x,λ_ h=>.inl h⟩,?_⟩;exact l b (by omega) λk o n r m=>by have:=(jN (h.ob k o r) m).2.2;omega
 have g:∀ i o,(i∈c\/i=d)->aB M (c.map (λk=>(k,Ob.gone))++[(d,O)]) i=U o->(i=d/\o=O)\/(i≠d/\o=.gone):=λi o p a=>by rw[I1]at a;by_cases m:i=d;rw[ufw m]at a;exact .inl ⟨m,(ud4 a).symm⟩;rw[ufx m,ufw (p.resolve_right m)]at a;exact .inr ⟨m,(ud4 a).symm⟩
 refine h.re (λi=>i∈c\/i=d) (λi a=>?_) (λi a=>ga _ _ (λe=>a (.inr e))) R N (λb f hn=>l b f λk o n r=>hn k o (.inl n) r) ?_ ?_ ?_;rw[I1,ufx (λe=>a (.inr e)),ufx (λe=>a (.inl e))];intro i o p a;rcases g i o p a with ⟨rfl,rfl⟩|⟨_,rfl⟩
 rw[ig];exact s.keep (λ_ h=>h) (λ_ _=>rfl) (λ_ _ h=>h.elim) (λb f=>⟨rfl,(jN (γ:=λ_=>v) (id:=0) s f).2.1⟩);trivial;intro i o b p a f;rcases g i o p a with ⟨rfl,rfl⟩|⟨_,rfl⟩
 rw[ig]at f;exact(D b f).imp (λ⟨k,o,S,T,W⟩=>⟨k,o,.inl S,T,W⟩) (λh=>h);exact f.elim;intro i j oi oj b p K E a hj A C;rcases g i oi p a with ⟨rfl,rfl⟩|⟨_,rfl⟩
 rcases g j oj K hj with ⟨rfl,rfl⟩|⟨_,rfl⟩
 exact E rfl;exact C;exact A
def Cu{O:Ob}(e:List Nat)(b:O ≠ .gone)(a:v.oneCell'=Z):aK P w F (av (aB M (e.map (λk=>(k,Ob.gone))++[(d,O)])) (dG γ d v)) (.c (.own d)) v:=by refine⟨a,?_⟩;simp only[bx];unfold av;rw[I1,ufw rfl,ig];cases O<;>first|rfl|exact absurd rfl b
def qa0{e a:Nat}(h:Pl e off a=Z):vC (fJ e off a)=e/\da (fJ e off a)=off/\mz (fJ e off a)=a/\cJ<=fJ e off a/\fJ e off a<fh/\a<cJ:=ucx h
def zl6{d o:Ty}{l:List o.q}{n:List AC}{x:d.q}(a:dec d (n.set off (.sl o l))=U (x,[]))(h:off<n.length)(B:aS P w F R n g):
  (enc d x)[off]?= U (.sl o l)/\∀ (k:Nat) c,(enc d x)[k]?= U c->k≠off->∃ u,g k u/\bx P w F (λ_ _=>False) c u:=by
 have A:=mN d a;have b:off<(enc d x).length:=by rw[gV];simp at A;omega
 refine⟨?_,λk c y z=>?_⟩;obtain⟨r,C,D,f,p,m,i⟩:=ro d a off _ (uaq b);rw[ua0 h]at f;cases f;have:=TN p m;rw[this]at i;rw[uaq b];exact ufu U (List.cons.inj i).1.symm;obtain⟨r,C,D,f,p,m,i⟩:=ro d a k c y;rw[ubi (λe=>z e.symm)]at f;obtain⟨u,s,t,v⟩:=B.at_ f;exact⟨u,s,J1 m i t v⟩
def qzy{a:Nat}{r:Ty}{c:AC}{l:List r.q}{u:List (Nat×Ob)}(K:MemOK P B w F γ M)(f:∀ i y,m i=U y->M i=U y)(h:Nq m a r c=U (l,u))(H:a<cJ)(z:bx P w F (av M γ) c v):
  ∃ (t:List Nat) (g:List Value),u=t.map (λk=>(k,Ob.gone))/\(∀ k∈t,∃ o,M k=U o)/\w.ownsRow B a r.size v l.length g/\cy w F r l g/\(∀ y∈g,y.oneCell'=Z)/\∀ b,v.ownBlock=U b->¬ F b/\∃ k o,k∈t/\M k=U o/\cg w o (γ k) b:=by
 unfold Nq at h;split at h<;>try trivial
 cases h;obtain rfl:v=.slice V 0 0:=z;exact⟨[],[],rfl,λk s=>by simp at s,ucs _ _ _ _,λi x O=>by simp at O,λy Q=>by simp at Q,λb p=>by simp[Value.ownBlock]at p⟩;rename_i k;split at h<;>try trivial
 rename_i e T S s;split at h<;>try trivial
 rename_i L;subst L;split at h<;>try trivial
 rename_i G;subst G;cases h;have n:=f _ _ s;have N:=fV n (by simp) z;subst N;obtain⟨g,A,C,D,E⟩:=iT.of (K.ob k _ n) H;exact⟨[k],g,rfl,λR d=>by simp at d;subst d;exact⟨_,n⟩,A,D,E,λb p=>⟨C b p,k,_,by simp,n,.inl p⟩⟩
def qeb{i:TypeInfo}(h:(i.zero.any λz=>z.cells.size==n)=Z):∃ z,i.zero=U z/\z.cells.size=n:=by
 cases a:i.zero with
 |none=>simp[a]at h
 |some z=>exact⟨z,rfl,by simpa[a]using h⟩
def zlz{i:TypeInfo}{z:Value}(s:P.underlying t=U (.slice el))(d:P.info? el=U i)(u:i.zero=U z)(B:v.cells.size=i.size)(h:i.size<=16777216)(k:0<i.size):
  (Instr.buildSlice t 1 #[(0,v)]).run P w=.ok (.slice (U ⟨w.heap.size,0,V⟩) 1 1) (w.alloc (.cells v.cells el)):=by
 have f:(zeroValue el).run P w=.ok z w:=by simp[zeroValue,typeInfo,d,u]
 have c:P.cellsOf el=i.size:=by simp[Program.cellsOf,d]
 have o:¬ (16777216<i.size):=by omega
 have e:¬ (i.size=0):=by omega
 have p:∀ a:Array Value,a.size=i.size->Instr.fill (λj=>U (j*i.size,i.size)) a [(0,v)]=U v.cells:=by
  intro a A;obtain⟨y,l⟩:=Mp v.cells.toList 0 0 a;have g:v.cells.zipIdx.foldl (λb (x:Value×Nat)=>b.setIfInBounds (0*i.size+x.2) x.1) a=(v.cells.toList.zipIdx 0).foldl (λb (x:Value×Nat)=>b.setIfInBounds (0+x.2) x.1) a:=by rw[<- Array.foldl_toList,Array.toList_zipIdx,Nat.zero_mul]
  simp only[Instr.fill];rw[ufx (by simp;omega)];show U _=U _;congr 1;refine Eq.trans g (uci λj=>?_);rw[l j];by_cases r:j<v.cells.size;simp[r];omega;have m:v.cells[j]?= none:=by simp;omega
  have n:a[j]?= none:=by simp;omega
  simp[m,n]
 simp only[Instr.buildSlice,uet,ud6 s,ucm,jj d,c];simp[e,o,f,p _ _,newRow,newObj,Sem.run]
def CW{e:Nat}{a:Ty}{l:List a.q}(h:RwOK P B w F v e a l K xs)(m:innB w e a.size l.length K v b):
  ∃ i u,i<l.length/\¬ K i/\xs[i*a.size+da e]?= U u/\u.ownBlock=U b:=by
 obtain⟨i,u,d,f,g,k⟩:=m;obtain⟨_,_,n,_,_,c,_⟩:=h.inn i _ (uaq d) f;obtain rfl:=WD h.own c g;exact⟨i,u,d,f,c,k⟩
def qmc{x:AV}{e:Eff}(hm:MemOK P B w F γ M)(C:∀ b,F b->b<w.heap.size)(hB:B<=w.heap.size)(L:∀ i y,m i=U y->M i=U y)(hd:m d=V->M d=V)(ht:P.underlying t=U (.slice el))(h:JI P Γ d el x m=U e)(hx:aK P w F (av M γ) x v):
  ∃ u w' γ',(Instr.buildSlice t 1 #[(0,v)]).run P w=.ok u w'/\Step B w F γ M w' F γ' (aB M e.wr)/\MemOK P B w' F γ' (aB M e.wr)/\aK P w' F (av (aB M e.wr) γ') e.v u:=by
 unfold JI at h;split at h<;>try trivial
 rename_i o Q tt i cs s htt W T hmd;split at h<;>try trivial
 rename_i t' c ht' hc;split at h<;>try trivial
 rename_i l u hin;split at h<;>try trivial
 rename_i y p;split at h<;>try trivial
 rename_i r;obtain⟨A,hs,hpos,D,hz⟩:=r;obtain⟨z,hz,hzs⟩:=qeb hz;obtain⟨r1,R,r3,r4,r5,r6⟩:=qa0 A;cases h;obtain⟨c1,c2,c3⟩:=rf T hx;have H:o<cs.length:=(uak.1 hc).1;have E:=mN tt p;simp at E;obtain⟨p1,p2⟩:=zl6 p H c2;obtain⟨S,q1,q2,q3⟩:=c2.at_ hc;obtain⟨ks,ys,rfl,k1,k2,k3,k4,k5⟩:=qzy hm L hin r6 q3;have K:=zlz (w:=w) ht W hz (v:=v) (by omega) D (by omega);have f:∀ b,b<w.heap.size->(w.alloc (.cells v.cells el)).heap[b]?= w.heap[b]? := λb h=>udb _ _ _ h;have N:∀ b,S.ownBlock=U b->b<w.heap.size:=λb a=>(k2.lt b a).2;have s:RwOK P B (w.alloc (.cells v.cells el)) F (.slice (U ⟨w.heap.size,0,V⟩) 1 1) (fJ el o Q) tt [y] (λ_=>False) v.cells.toList:=by
  refine⟨⟨by simp;omega,.inr ⟨w.heap.size,1,_,rfl,hB,by rw[r1];exact ud8 w _,ufb _,by decide,by omega,by rw[ua3 (by simp;omega)]⟩⟩,λg hg hF=>?_,λu hu=>c3 u (ubh.1 hu),?_,?_,?_⟩;simp[Value.ownBlock]at hg;have:=C g hF;omega;intro j x' k c' n hk G;cases j with
  |succ j=>simp at n
  |zero=>simp at n;subst n;rw[R]at G;obtain⟨u',e1,e2⟩:=p2 k c' hk G;exact⟨u',by simpa using e1,bx.mono (λ_ h=>h) (λb a=>f b (C b a)) (λ_ _ h=>h) c' e2⟩
  intro j x' n _;cases j with
  |succ j=>simp at n
  |zero=>simp at n;subst n;refine⟨t',l,S,ys,by rw[R];exact p1,by rw[R];simpa using q1,by rw[r3];exact rS k2 (λb a=>f b (N b a)),k3.mono (λ_ h=>h) (λb a=>f b (C b a)),k4,λb a=>⟨λhe=>?_,(k5 b a).1⟩⟩;simp[Value.ownBlock]at he;have:=N b a;omega
  intro i j S uj b W n _ _ hij;simp at W n;omega
 obtain⟨s1,s2⟩:=hm.mk_ ks (O:=.arr (fJ el o Q) tt [y]) (v:=.slice (U ⟨w.heap.size,0,V⟩) 1 1) (hd hmd) k1 (by simp) C hB (λb a=>f b (C b a)) rfl rfl rfl (by simp) (λb a _=>f b a) (.inr (.inl ⟨r4,r5,_,s⟩)) (by
  intro b a;rcases a with a|⟨_,a⟩|a
  simp[Value.ownBlock]at a;exact .inr (by omega);obtain⟨i,u,h1,_,h2,h3⟩:=CW s a;have hi0:i=0:=by simpa using h1
  subst hi0;rw[R]at h2;have:S=u:=by
   have h4:v.cells[o]?= U u:=by simpa using h2
   rw[q1]at h4;exact ud4 h4
  subst this;exact .inl (k5 b h3).2;cases a)
 exact⟨_,_,_,K,s1,s2,Cu ks (by simp) rfl⟩
def zga{n c:Int}{kn kc:IntKind}{e:Eff}(hm:MemOK P B w F γ M)(hb:∀ b,F b->b<w.heap.size)(hB:B<=w.heap.size)(hd:m d=V->M d=V)(h:NK P Γ d t n c m=U e)(hn:az e.need):
  ∃ u w' γ',(Instr.makeSlice t (.int kn n) (.int kc c)).run P w=.ok u w'/\Step B w F γ M w' F γ' (aB M e.wr)/\MemOK P B w' F γ' (aB M e.wr)/\aK P w' F (av (aB M e.wr) γ') e.v u:=by
 unfold NK at h;split at h<;>try trivial
 rename_i S ht;split at h<;>try trivial
 rename_i f inn i o hrw0 hi htt hmd;split at h<;>try trivial
 rename_i z hz;split at h<;>try trivial
 rename_i cs hcs;split at h<;>try trivial
 rename_i x C D;split at h<;>try trivial
 rename_i K;obtain⟨T,N,hs2,hs3⟩:=K;obtain⟨r1,r2,r3,r4,r5,r6⟩:=qa0 T;cases h;obtain⟨n1,n2,n3,n4⟩:=hn;obtain⟨z1,z2,z3⟩:=rf hcs (wC (P:=P) (w:=w) (F:=F) (R:=av M γ) z);have hr:=run_make w t S i z ht hi hz kn kc n c n1 n2 (by rw[ue1];omega) (by simp only[maxLen]at n3;omega);have hcn:c.toNat<=maxLen:=by omega
 have A:∀ k,k<c.toNat*i.size->(madeCells z.cells (c.toNat*i.size))[k]?= z.cells[k%z.cells.size]? := by
  intro k p;have hpos:0<z.cells.size:=by omega
  have H:=ufi k hpos;have hg:z.cells[k%z.cells.size]! = z.cells[k%z.cells.size]:=by simp[H]
  simp[madeCells,p,hg]
 have E:∀ b,b<w.heap.size->(w.alloc (.cells (madeCells z.cells (c.toNat*i.size)) S)).heap[b]?= w.heap[b]? := λb h=>udb _ _ _ h;have l:(Lrp n.toNat x).length=n.toNat:=by simp
 have hdl:=mN o C;have s:f<o.size:=by have:=(uak.1 D).1;simp at hdl;omega
 have G:∀ k j,k<n.toNat->j<o.size->((madeCells z.cells (c.toNat*i.size)).toList.take (n.toNat*o.size))[k*o.size+j]?= z.cells[j]? := λk j p hj=>by
  have hkb:k*o.size+o.size<=n.toNat*o.size:=by rw[<- uex];exact ube _ p
  have hnc:n.toNat*o.size<=c.toNat*i.size:=by rw[N];exact ube _ (by omega)
  rw[ub2,ufw (by omega),ua5,A _ (by omega),hs2];rw[show(k*o.size+j)%o.size=j from by rw[uew,Nat.mul_add_mod];exact Nat.mod_eq_of_lt hj]
 have hx:∀ k y,(Lrp n.toNat x)[k]?= U y->k<n.toNat/\y=x:=λk y p=>by have r:=(uak.1 p);exact⟨by simpa using r.1,by have:=r.2;simpa using this.symm⟩
 have Q:z.cells[f]?= U (.slice V 0 0):=by obtain⟨u,e1,_,e3⟩:=z2.at_ D;have e4:u=.slice V 0 0:=e3;rw[e4]at e1;exact e1
 have hxi:∃ t',(enc o x)[f]?= U (.sl t' []):=by
  have ho':f<(enc o x).length:=by rw[gV];exact s
  obtain⟨c0,t1,x1,a1,a2,a3,a4⟩:=ro o C f _ (uaq ho');rw[D]at a1;cases a1;obtain⟨t',r⟩:=qqe a2 a3;rw[r]at a4;refine⟨t',?_⟩;rw[uaq ho'];exact ufu U (List.cons.inj a4).1.symm
 have hrw:RwOK P B (w.alloc (.cells (madeCells z.cells (c.toNat*i.size)) S)) F (.slice (U ⟨w.heap.size,0,V⟩) n.toNat c.toNat) (fJ S f inn) o (Lrp n.toNat x) (λ_=>False) ((madeCells z.cells (c.toNat*i.size)).toList.take (n.toNat*o.size)):=by
  refine⟨⟨?_,.inr ⟨w.heap.size,c.toNat,_,by rw[l],hB,by rw[r1];exact ud8 w _,by rw[l];omega,hcn,by rw[size_madeCells,N],by rw[l]⟩⟩,λg hg hF=>?_,λu hu=>?_,?_,?_,?_⟩;rw[uc5,ubu,size_madeCells,l];have:n.toNat*o.size<=c.toNat*i.size:=by rw[N];exact ube _ (by omega)
  omega;simp[Value.ownBlock]at hg;have:=hb g hF;omega;have hu':=ubq hu;obtain⟨k,p,rfl⟩:=List.getElem_of_mem hu';have hk':k<c.toNat*i.size:=by simpa[size_madeCells]using p
  have r:=A k hk';have H:k%z.cells.size<z.cells.size:=ufi k (by omega);rw[uam (by simpa using p),uam H]at r;have h2:=ud4 r;rw[Array.getElem_toList,h2];exact z3 _ (Array.getElem_mem H);intro k y j c' p W hne;obtain⟨L,rfl⟩:=hx k y p;have hj:j<o.size:=by have:=(uak.1 W).1;rw[gV]at this;exact this
  obtain⟨c0,t1,x1,a1,a2,a3,a4⟩:=ro o C j c' W;obtain⟨u,e1,e2,e3⟩:=z2.at_ a1;exact⟨u,by rw[G k j L hj];exact e1,bx.mono (λ_ h=>h) (λb a=>E b (hb b a)) (λ_ _ h=>h) c' (J1 a3 a4 e2 e3)⟩;intro k y p _;obtain⟨L,rfl⟩:=hx k y p;obtain⟨t',r⟩:=hxi;exact⟨t',[],.slice V 0 0,[],by rw[r2];exact r,by rw[r2,G k f L s];exact Q,ucs _ _ _ _,λi x hx=>by simp at hx,λy hy=>by simp at hy,λb a=>by simp[Value.ownBlock]at a⟩;intro k j ui uj b p hj _ _ _ r _ h3;rw[l]at p;rw[r2,G k f p s,Q]at r;cases r;simp[Value.ownBlock]at h3
 obtain⟨s1,s2⟩:=hm.mk_ [] (O:=.arr (fJ S f inn) o (Lrp n.toNat x)) (v:=.slice (U ⟨w.heap.size,0,V⟩) n.toNat c.toNat) (hd hmd) (λk p=>by simp at p) (by simp) hb hB (λb a=>E b (hb b a)) rfl rfl rfl (by simp) (λb a _=>E b a) (.inr (.inl ⟨r4,r5,_,hrw⟩)) (by
  intro b a;rcases a with a|⟨_,a⟩|a
  simp[Value.ownBlock]at a;exact .inr (by omega);obtain⟨k,u,r,_,h2,h3⟩:=CW hrw a;rw[l]at r;rw[r2,G k f r s,Q]at h2;cases h2;simp[Value.ownBlock]at h3;cases a)
 exact⟨_,_,_,hr,s1,s2,Cu [] (by simp) rfl⟩
def zl7{e:Nat}{tt:Ty}:RwOK P B w F (.slice V 0 0) e tt [] (λ_=>False) []:=
 ⟨by simpa using ucs w B (vC e) tt.size,λg d=>by simp[Value.ownBlock]at d,λu h=>by simp at h,λi x k c a=>by simp at a,λi x a=>by simp at a,λi j l m b f=>absurd f (Nat.not_lt_zero i)⟩
def qlq{sz:Nat}{a c:List α}{k:Nat}(h:a.length=n*sz)(b:i<n)(d:k<sz):(a++c)[i*sz+k]?= a[i*sz+k]? := by
 have:i*sz+sz<=n*sz:=by rw[<- uex];exact ube _ b
 rw[uaj (by omega)]
def qlr{sz:Nat}{a b:List α}{k:Nat}(h:a.length=n*sz)(c:n<=i):(a++b)[i*sz+k]?= b[(i-n)*sz+k]? := by
 have:n*sz+(i-n)*sz=i*sz:=by rw[<- ufd];congr 1;omega
 rw[uae (by omega)];congr 1;omega
def qa2{vs v':Value}{e:Nat}{tt:Ty}{l o:List tt.q}{M:List Value}(z:RwOK P B w F vs e tt l (λ_=>False) xs)(K:RwOK P B w F vx e tt o (λ_=>False) M)(hb:∀ b,F b->b<w.heap.size)(hg:w.grownBy w' vs.ownBlock)(hown:w'.ownsRow B (vC e) tt.size v' (l.length+o.length) (xs++M))(hv:v'.ownBlock=vs.ownBlock\/v'.ownBlock=U w.heap.size)(R:∀ b,vs.ownBlock=U b\/innB w e tt.size l.length (λ_=>False) vs b->¬ (vx.ownBlock=U b\/innB w e tt.size o.length (λ_=>False) vx b)):
  RwOK P B w' F v' e tt (l++o) (λ_=>False) (xs++M)/\∀ b,innB w' e tt.size (l++o).length (λ_=>False) v' b->innB w e tt.size l.length (λ_=>False) vs b\/innB w e tt.size o.length (λ_=>False) vx b:=by
 have h1:=z.own.1;have hF:∀ b,F b->w'.heap[b]?= w.heap[b]? := λb a=>hg.block b (hb b a) (λH=>z.nf b H.symm a);have y:∀ b,b<w.heap.size->vs.ownBlock≠U b->w'.heap[b]?= w.heap[b]? /\ v'.ownBlock≠U b:=λb hlt hne=>⟨hg.block b hlt (λH=>hne H.symm),λH=>hv.elim (λh=>hne (h ▸ H)) (λh=>by rw[h]at H;simp at H;omega)⟩
 have T:∀ (x:tt.q) k c,(enc tt x)[k]?= U c->k<tt.size:=λx k c hc=>by have:=(uak.1 hc).1;rw[gV]at this;exact this
 have n:∀ i,i<(l++o).length->(∃ x,i<l.length/\l[i]?= U x/\(l++o)[i]?= U x/\∀ k,k<tt.size->(xs++M)[i*tt.size+k]?= xs[i*tt.size+k]?) \/
   (∃ x,l.length<=i/\o[i-l.length]?= U x/\(l++o)[i]?= U x/\∀ k,(xs++M)[i*tt.size+k]?= M[(i-l.length)*tt.size+k]?):=λi d=>by
  rcases ueq i l.length with h|h
  exact .inl ⟨_,h,uaq h,by rw[uaj h,uaq h],λk hk=>qlq h1 h hk⟩;rw[ub6]at d;exact .inr ⟨_,h,uaq (by omega),by rw[uae h,uaq (by omega)],λk=>qlr h1 h⟩
 have m:∀ i x u,(l++o)[i]?= U x->(∃ r p,(enc tt x)[da e]?= U (.sl r p))->(xs++M)[i*tt.size+da e]?= U u->(i<l.length/\xs[i*tt.size+da e]?= U u)\/(l.length<=i/\M[(i-l.length)*tt.size+da e]?= U u):=λi x u d W N=>by
  obtain⟨r,p,W⟩:=W;rcases n i (uak.1 d).1 with ⟨A,D,_,_,s⟩|⟨A,D,_,_,s⟩
  exact .inl ⟨D,by rw[<- s _ (T _ _ _ W)];exact N⟩;exact .inr ⟨D,by rw[<- s];exact N⟩
 have hR:RwOK P B w' F v' e tt (l++o) (λ_=>False) (xs++M):=by
  refine⟨by rw[ub6];exact hown,λg S hF'=>?_,λu N=>?_,?_,?_,?_⟩;rcases hv with h|h
  exact z.nf g (h ▸ S) hF';rw[h]at S;simp at S;have:=hb g hF';omega;rcases udt.1 N with N|N
  exact z.one u N;exact K.one u N;intro i x k c d hc hk;rcases n i (uak.1 d).1 with ⟨A,D,t,f,s⟩|⟨A,D,t,f,s⟩
  rw[d]at f;cases f;obtain⟨u,e1,e2⟩:=z.cells i x k c t hc hk;exact⟨u,by rw[s k (T _ _ _ hc)];exact e1,bx.mono (λ_ h=>h) hF (λ_ _ h=>h) c e2⟩;rw[d]at f;cases f;obtain⟨u,e1,e2⟩:=K.cells _ x k c t hc hk;exact⟨u,by rw[s k];exact e1,bx.mono (λ_ h=>h) hF (λ_ _ h=>h) c e2⟩;intro i x d _;rcases n i (uak.1 d).1 with ⟨A,D,t,f,s⟩|⟨A,D,t,f,s⟩
  rw[d]at f;cases f;obtain⟨r,p,u,zs,C,O,b3,b4,b5,b6⟩:=z.inn i x t (λh=>h);have v:=λb a=>y b (b3.lt b a).2 (b6 b a).1;exact⟨r,p,u,zs,C,by rw[s _ (T _ _ _ C)];exact O,rS b3 (λb a=>(v b a).1),b4.mono (λ_ h=>h) hF,b5,λb a=>⟨(v b a).2,(b6 b a).2⟩⟩;rw[d]at f;cases f;obtain⟨r,p,u,zs,C,O,b3,b4,b5,b6⟩:=K.inn _ x t (λh=>h);have v:=λb (a:u.ownBlock=U b)=>y b (b3.lt b a).2 (λH=>R b (.inl H) (.inr (K.innB (uak.1 t).1 (λh=>h) O a)));exact⟨r,p,u,zs,C,by rw[s];exact O,rS b3 (λb a=>(v b a).1),b4.mono (λ_ h=>h) hF,b5,λb a=>⟨(v b a).2,(b6 b a).2⟩⟩;intro i j ui uj b d hj _ _ hij hui huj E G;have hsl:∀ i,i<(l++o).length->∃ x,(l++o)[i]?= U x/\∃ r p,(enc tt x)[da e]?= U (.sl r p):=λi d=>by
   rcases n i d with ⟨A,D,t,f,s⟩|⟨A,D,t,f,s⟩
   obtain⟨r,p,_,_,C,_⟩:=z.inn i A t (λh=>h);exact⟨A,f,r,p,C⟩;obtain⟨r,p,_,_,C,_⟩:=K.inn _ A t (λh=>h);exact⟨A,f,r,p,C⟩
  obtain⟨xi,c1,c2⟩:=hsl i d;obtain⟨xj,d1,d2⟩:=hsl j hj;rw[ub6]at d hj;rcases m i xi ui c1 c2 hui with ⟨p1,L⟩|⟨p1,L⟩
  rcases m j xj uj d1 d2 huj with ⟨q1,q2⟩|⟨q1,q2⟩
  exact z.disj i j ui uj b p1 q1 (λh=>h) (λh=>h) hij L q2 E G;exact R b (.inr (z.innB p1 (λh=>h) L E)) (.inr (K.innB (by omega) (λh=>h) q2 G));rcases m j xj uj d1 d2 huj with ⟨q1,q2⟩|⟨q1,q2⟩
  exact R b (.inr (z.innB q1 (λh=>h) q2 G)) (.inr (K.innB (by omega) (λh=>h) L E));exact K.disj _ _ ui uj b (by omega) (by omega) (λh=>h) (λh=>h) (by omega) L q2 E G
 refine⟨hR,λb a=>?_⟩;obtain⟨i,u,Q,_,h2,h3⟩:=CW hR a;obtain⟨r,p,u',_,C,O,_⟩:=hR.inn i _ (uaq Q) (λh=>h);rw[h2]at O;cases O;rw[ub6]at Q;rcases m i _ u (uaq (by rw[ub6];exact Q)) ⟨r,p,C⟩ h2 with ⟨p1,L⟩|⟨p1,L⟩
 exact .inl (z.innB p1 (λh=>h) L h3);exact .inr (K.innB (by omega) (λh=>h) L h3)
def RwOK.of{e:Nat}{t:Ty}{l:List t.q}(h:iA P B w F R v (.arr e t l))(a:cJ<=e)(b:e<fh):∃ xs,RwOK P B w F v e t l (λ_=>False) xs:=by
 rcases h with ⟨k,_⟩|⟨_,_,h⟩|⟨k,_⟩
 exact absurd k (Nat.not_lt.2 a);exact h;exact absurd b (Nat.not_lt.2 k)
def qlf{k:Nat}{s:AV}{e:Eff}{vs:Value}(hm:MemOK P B w F γ M)(hb:∀ b,F b->b<w.heap.size)(hB:B<=w.heap.size)(hsub:∀ i y,m i=some y->M i=some y)(hd:m d=none->M d=none)(h:Jy P d t s k m=some e)(hn:az e.need)(hs:aK P w F (av M γ) s vs)(hx:aK P w F (av M γ) (.c (.own k)) vx):
  ∃ u w' γ',(Builtin.append_ #[t,t] ty #[vs,vx]).run P w=.ok u w'/\Step B w F γ M w' F γ' (aB M e.wr)/\MemOK P B w' F γ' (aB M e.wr)/\aK P w' F (av (aB M e.wr) γ') e.v u:=by
 unfold Jy at h;split at h<;>try trivial
 rename_i el ht;split at h<;>try trivial
 rename_i i e2 tt l2 hi hk hmd;split at h<;>try trivial
 rename_i hcond;obtain⟨r1,r2,r3,hsz1,hsz2,hz0⟩:=hcond;obtain⟨z,hz,hzs⟩:=qeb hz0;have hMk:=hsub _ _ hk;have hvx:=fV hMk (by simp) hx.2;subst hvx;obtain⟨ys,hy⟩:=RwOK.of (hm.ob k _ hMk) r1 r2;obtain⟨A,cap,hvk,hAn,hcell⟩:∃ A cap,γ k=.slice A l2.length cap/\(A=none->l2.length=0)/\∀ ad,A=some ad->∀ (j:Nat) u,ys[j]?= some u->w.cell? (ad.add j)=some u:=by
  rcases hy.own.2 with ⟨h3,h4⟩|⟨g,cap,cur,h3,_⟩
  exact⟨none,0,by rw[h3,h4],λ_=>h4,λad he=>by cases he⟩;refine⟨_,_,h3,(λh=>by cases h),λad he=>?_⟩;cases he;exact hy.own.cells (by rw[h3];rfl)
 split at h<;>try trivial
 cases h;obtain⟨_,rfl⟩:=hs;obtain⟨v',w',e1,e2',e3,e4⟩:=tk t ty el i z tt.size ht hi hz hsz1 hzs hsz2 (.slice none 0 0) 0 [] (ucs w B el tt.size) A l2.length cap ys hAn hy.own.1 hcell hy.one (by have:=hn.1;omega) (by have:=hn.2;simpa using this) hB;obtain⟨p1,p2⟩:=qa2 (zl7 (e:=e2) (tt:=tt)) hy hb e3 (by rw[r3];simpa using e2') e4 (λb hb'=>by
  rcases hb' with hb'|⟨_,_,hb',_⟩
  simp[Value.ownBlock]at hb';exact absurd hb' (Nat.not_lt_zero _))
 rw[udn,udn]at p1;rw[udn]at p2;have hold:∀ b,b<w.heap.size->w'.heap[b]?= w.heap[b]? := λb h=>e3.block b h (by simp[Value.ownBlock]);obtain⟨s1,s2⟩:=hm.mk_ [k] (O:=.arr e2 tt l2) (v:=v') (hd hmd) (λk' hk'=>by simp at hk';subst hk';exact⟨_,hMk⟩) (by simp) hb hB (λb hb'=>hold b (hb b hb')) e3.os e3.tape e3.output e3.size (λb hb' _=>hold b hb') (.inr (.inl ⟨r1,r2,_,p1⟩)) (by
  intro b hb';rcases hb' with hb'|⟨_,hb'⟩|hb'
  rcases e4 with h|h
  rw[h]at hb';simp[Value.ownBlock]at hb';rw[h]at hb';simp at hb';exact .inr (by omega);rcases p2 b hb' with ⟨_,_,h0,_⟩|h0
  exact absurd h0 (Nat.not_lt_zero _);exact .inl ⟨k,_,by simp,hMk,.inr (.inl ⟨r1,h0⟩)⟩;exact absurd hb' (qg p1.own b))
 rw[<- hvk]at e1;exact⟨v',w',_,e1,s1,s2,Cu [k] (by simp) (nj p1.own)⟩;rename_i id;split at h<;>try trivial
 rename_i e3' u0 l hid;split at h<;>try trivial
 rename_i hu;subst hu;split at h<;>try trivial
 rename_i hc;obtain⟨rfl,hne⟩:=hc;cases h;have hMi:=hsub _ _ hid;have hv:=fV hMi (by simp) hs.2;subst hv;obtain⟨xs,hxs⟩:=RwOK.of (hm.ob id _ hMi) r1 r2;have hown:=hxs.own;rw[r3]at hown;obtain⟨v',w',e1,e2',e3,e4⟩:=tk t ty el i z u0.size ht hi hz hsz1 hzs hsz2 (γ id) l.length xs hown A l2.length cap ys hAn hy.own.1 hcell hy.one hn.1 hn.2 hB;obtain⟨p1,p2⟩:=qa2 hxs hy hb e3 (by rw[r3];exact e2') e4 (λb hb1 hb2=>hm.apart id k _ _ b hne hMi hMk (hb1.imp id_ (λh=>.inl ⟨r1,h⟩)) (hb2.imp id_ (λh=>.inl ⟨r1,h⟩)));have hold:∀ b,b<w.heap.size->(γ id).ownBlock≠some b->w'.heap[b]?= w.heap[b]? := λb h hne=>e3.block b h (λhe=>hne he.symm);obtain⟨s1,s2⟩:=hm.mk_ [id,k] (O:=.arr e3' u0 (l++l2)) (v:=v') (hd hmd) (λk' hk'=>by
   simp at hk';rcases hk' with rfl|rfl
   exact⟨_,hMi⟩;exact⟨_,hMk⟩) (by simp) hb hB (λb hb'=>hold b (hb b hb') (λhe=>hxs.nf b he hb')) e3.os e3.tape e3.output e3.size (λb hb' hno=>hold b hb' (λhe=>hno id _ (by simp) hMi (.inl he))) (.inr (.inl ⟨r1,r2,_,p1⟩)) (by
  intro b hb';rcases hb' with hb'|⟨_,hb'⟩|hb'
  rcases e4 with h|h
  exact .inl ⟨id,_,by simp,hMi,.inl (h ▸ hb')⟩;rw[h]at hb';simp at hb';exact .inr (by omega);rcases p2 b hb' with h0|h0
  exact .inl ⟨id,_,by simp,hMi,.inr (.inl ⟨r1,h0⟩)⟩;exact .inl ⟨k,_,by simp,hMk,.inr (.inl ⟨r1,h0⟩)⟩;exact absurd hb' (qg p1.own b))
 rw[<- hvk]at e1;exact⟨v',w',_,e1,s1,s2,Cu [id,k] (by simp) (nj p1.own)⟩
where
 id_ {α:Prop} (h:α):α:=h
def zcv{id sz:Nat}{e:Eff}(hm:MemOK P B w F γ M)(hb:∀ b,F b->b<w.heap.size)(hsub:∀ i y,m i=U y->M i=U y)(hd:m d=V->M d=V)(h:ND P d t id sz i off m=U e)(hn:az e.need)(hx:aK P w F (av M γ) (.optr id sz i off) v):
  ∃ u γ',(Instr.loadAt t v).run P w=.ok u w/\Step B w F γ M w F γ' (aB M e.wr)/\MemOK P B w F γ' (aB M e.wr)/\aK P w F (av (aB M e.wr) γ') e.v u:=by
 unfold ND at h;split at h<;>try trivial
 rename_i p N l hid hmd;split at h<;>try trivial
 rename_i S R hli;split at h<;>try trivial
 rename_i hc;obtain⟨r1,r2,rfl,rfl,r3,hw,hi1,hi2⟩:=hc;cases h;have D:i<l.length:=hn;have r:=hsub _ _ hid;have T:=hd hmd;have K:d≠id:=by rintro rfl;rw[T]at r;cases r
 obtain⟨xs,g⟩:=RwOK.of (hm.ob id _ r) r1 r2;have hgd:l.getD i N.j=l[i]:=by rw[uah,uaq D];rfl
 rw[hgd]at hli;obtain⟨t'',li',u,ys,a1,a2,a3,a4,a5,a6⟩:=g.inn i _ (uaq D) (λh=>h);rw[hli]at a1;cases a1;obtain⟨A,n,c,g1,rfl⟩:=hx;have g2 : .slice (U A) n c=γ id:=by unfold av at g1;rw[r]at g1;exact g1
 obtain⟨A',n',c',g3,g4⟩:=uv g.own a2;rw[<- g2]at g3;cases g3;obtain⟨ds,hds⟩:=uar.1 hi2;refine⟨u,dG γ d u,?_,?_⟩;simp[Instr.loadAt,Instr.sureAddr,loadVar,CV hds,hw,Sem.run,g4];have s:∀ j,aB M [(id,Ob.hole p N l i d),(d,.arr (mz p) S R)] j=if j=d then U (.arr (mz p) S R)else if j=id then U (.hole p N l i d)else M j:=λj=>by simp only[aB,upd]
 have hR:∀ j Q,av M γ j Q->av (aB M [(id,Ob.hole p N l i d),(d,.arr (mz p) S R)]) (dG γ d u) j Q:=λj Q f=>by unfold av at f |-;rw[s];by_cases E:j=d;subst E;rw[T]at f;exact f.elim;rw[ufx E];by_cases h2:j=id;subst h2;rw[r]at f;rw[ufw rfl,ga _ _ E];exact f;rw[ufx h2,ga _ _ E];exact f
 have z:∀ j o,(j=id\/j=d)->aB M [(id,Ob.hole p N l i d),(d,.arr (mz p) S R)] j=U o->(j=d/\o=.arr (mz p) S R)\/(j=id/\o=.hole p N l i d):=λj o L f=>by rw[s]at f;by_cases E:j=d;rw[ufw E]at f;exact .inl ⟨E,(ud4 f).symm⟩;rw[ufx E,ufw (L.resolve_right E)]at f;exact .inr ⟨L.resolve_right E,(ud4 f).symm⟩
 have C:RwOK P B w F (γ id) p N l (· = i) xs:=⟨g.own,g.nf,g.one,g.cells,λj x f _=>g.inn j x f (λh=>h),λj k uj uk b f hk _ _=>g.disj j k uj uk b f hk (λh=>h) (λh=>h)⟩;have hnm:∀ b,u ≠ .map (U b):=qg a3;have O:∀ b,cg w (.arr (mz p) S R) u b->u.ownBlock=U b:=λb a=>(oa r3 hnm).1 a;refine⟨⟨λ_ h=>h,λ_ _=>rfl,hR,λ_ _=>rfl,rfl,rfl,rfl,ufb _,hb,λ_ h=>.inl h⟩,hm.re (λj=>j=id\/j=d) (λj f=>?_) (λj f=>ga _ _ (λe=>f (.inr e))) (λ_ _=>rfl) hR (λ_ _ _=>rfl) ?_ ?_ ?_,?_⟩;show aB M _ j=M j;rw[s,ufx (λe=>f (.inr e)),ufx (λe=>f (.inl e))];intro j o L f;rcases z j o L f with ⟨rfl,rfl⟩|⟨rfl,rfl⟩
 rw[ig];exact .inl ⟨r3,ys,a3,λb a=>(a6 b a).2,a4,a5⟩;rw[ga _ _ K.symm];exact⟨r1,r2,xs,C,D,u,a2,by unfold av;rw[s,ufw rfl,ig]⟩
 intro j o b L f a;refine .inl ⟨id,_,.inl rfl,r,?_⟩;rcases z j o L f with ⟨rfl,rfl⟩|⟨rfl,rfl⟩
 rw[ig]at a;exact .inr (.inl ⟨r1,g.innB D (λh=>h) a2 (O b a)⟩);rw[ga _ _ K.symm]at a;rcases a with a|⟨j,Q,q1,_,q3⟩
 exact .inl a;exact .inr (.inl ⟨r1,j,Q,q1,λh=>h,q3⟩);have key:∀ b,u.ownBlock=U b->¬ cg w (.hole p N l i d) (γ id) b:=λb hub a=>by
  rcases a with a|a
  exact(a6 b hub).1 a;obtain⟨j,Q,q1,q2,q3,q4⟩:=CW C a;exact g.disj j i Q u b q1 D (λh=>h) (λh=>h) q2 q3 a2 q4 hub
 intro j k oj ok b L hs' W f hk G H;rcases z j oj L f with ⟨rfl,rfl⟩|⟨rfl,rfl⟩
 rcases z k ok hs' hk with ⟨rfl,rfl⟩|⟨rfl,rfl⟩
 exact W rfl;rw[ig]at G;rw[ga _ _ K.symm]at H;exact key b (O b G) H;rcases z k ok hs' hk with ⟨rfl,rfl⟩|⟨rfl,rfl⟩
 rw[ig]at H;rw[ga _ _ K.symm]at G;exact key b (O b H) G;exact W rfl;refine⟨nj a3,?_⟩;simp only[bx];unfold av;rw[s,ufw rfl,ig]
def ziz{sz j:Nat}(h:w.ownsRow B e sz v n xs)(r:j<n*sz):
  ∃ b arr a,v=.slice (U ⟨b,0,V⟩) n a/\w.heap[b]?= U (.cells arr e (0,0))/\B<=b/\j+1<=arr.size/\∀ u,(w.setRow b (dg arr j [u])).ownsRow B e sz v n (xs.set j u):=by
 obtain⟨t,⟨_,rfl⟩|⟨b,a,c,rfl,o,p,g,l,m,y⟩⟩:=h;simp at r;have x:n*sz<=a*sz:=ube _ g;have s:j + [Value.nilFunc].length<=c.size:=by simp;omega
 refine⟨b,c,a,rfl,p,o,by omega,λu=>?_⟩;have f:j + [u].length<=c.size:=by simp;omega
 refine⟨by simp[t],.inr ⟨b,a,_,rfl,o,ufe w b c _ e (0,0) p,g,l,by rw[Cs f];exact m,?_⟩⟩;rw[<- y];refine List.ext_getElem? λk=>?_;rw[ub2,List.getElem?_set];by_cases i:k<n*sz;rw[ufw i,ua5];by_cases d:j=k;subst d;rw[ufw rfl,ufw (by simp;omega)];have:=Cr f (j:=0) (by simp);simpa using this;rw[ufx d,uQ f (by simp;omega),ub2,ufw i,ua5];rw[ufx i];by_cases d:j=k;omega;rw[ufx d,ub2,ufx i]
def zox{id sz k:Nat}{e:Eff}{vk:Value}(hm:MemOK P B w F γ M)(hb:∀ b,F b->b<w.heap.size)(hsub:∀ i y,m i=U y->M i=U y)(h:P9 P t id sz i off k m=U e)(hn:az e.need)(hx:aK P w F (av M γ) (.optr id sz i off) v)(hk:aK P w F (av M γ) (.c (.own k)) vk):
  e.v=.dead/\∃ w',(Instr.storeAt t v vk).run P w=.ok () w'/\Step B w F γ M w' F γ (aB M e.wr)/\MemOK P B w' F γ (aB M e.wr):=by
 unfold P9 at h;split at h<;>try trivial
 rename_i C a l j kk e2 t2 l2 hid hmk;split at h<;>try trivial
 rename_i t' ht';split at h<;>try trivial
 rename_i g;obtain⟨rfl,rfl,r3,rfl,rfl,hi1,hcell,hne⟩:=g;split at h<;>try trivial
 rename_i y K;cases h;obtain⟨hil,rfl⟩:i<l.length/\i=j:=hn;have G:=hsub _ _ hid;have hMk:=hsub _ _ hmk;obtain⟨r1,r2,xs,r,_⟩:=hm.ob id _ G;have hvk:=fV hMk (by simp) hk.2;subst hvk;obtain⟨zs,z1,z2,z3,z4⟩:=iT.of (hm.ob k _ hMk) r3;have N:(γ k).oneCell'=true:=nj z1;have hcl:(γ k).cells = #[γ k]:=by cases E:γ k<;>first|rfl|(rw[E]at N;simp[Value.oneCell']at N)
 have hgd:l.getD i a.j=l[i]:=by rw[uah,uaq hil];rfl
 rw[hgd]at K;have hlen:=mN a K;have z:da C<a.size:=by
  unfold Pr at ht';split at ht'<;>try trivial
  rename_i E;have:=(uak.1 E).1;rw[gV]at this;exact this
 have hpos:i*a.size+da C<l.length*a.size:=by
  have:i*a.size+a.size<=l.length*a.size:=by rw[<- uex];exact ube _ hil
  omega
 obtain⟨b,R,cap,hv,hh,hBb,hja,hset⟩:=ziz r.own hpos;obtain⟨A,n,c,g1,rfl⟩:=hx;have g2 : .slice (U A) n c=γ id:=by unfold av at g1;rw[G]at g1;exact g1
 rw[hv]at g2;cases g2;have hbo:(γ id).ownBlock=U b:=by rw[hv];rfl
 obtain⟨ti,hti⟩:=uar.1 hi1;have hrun:(Instr.storeAt t (.pointer (U ((⟨b,0,V⟩:Addr).add (i*a.size+da C)))) (γ k)).run P w=.ok () (w.setRow b (dg R (i*a.size+da C) [γ k])):=by rw[kq,uey];have:=HA (P:=P) (v:=γ k) hh hti (by rw[hcl];exact hcell.symm) (by rw[hcl];simpa using hja) (λu hu=>by rw[hcl]at hu;simp at hu;rw[hu];exact N);rw[hcl]at this;exact this
 have hnF:¬ F b:=r.nf b hbo;have L:∀ c,c≠b->(w.setRow b (dg R (i*a.size+da C) [γ k])).heap[c]?= w.heap[c]? := λc g=>ue0 w b c _ g;have hM':∀ j,aB M [(k,Ob.gone),(id,.arr C a (l.set i y))] j=if j=id then U (.arr C a (l.set i y))else if j=k then U .gone else M j:=λj=>by simp only[aB,upd]
 have hR:∀ j u',av M γ j u'->av (aB M [(k,Ob.gone),(id,.arr C a (l.set i y))]) γ j u':=λj u' s=>by unfold av at s |-;rw[hM'];by_cases f:j=id;subst f;rw[G]at s;rw[ufw rfl];exact s;rw[ufx f];by_cases S:j=k;subst S;rw[ufw rfl];trivial;rw[ufx S];exact s
 have H:∀ c,(γ k).ownBlock=U c->¬ cg w (.hole C a l i kk) (γ id) c:=λc g hc'=>hm.apart k id _ _ c (λe=>hne e.symm) hMk G (.inl g) hc';have hFk:∀ c,F c->(w.setRow b (dg R (i*a.size+da C) [γ k])).heap[c]?= w.heap[c]? := λc g=>L c (λe=>hnF (e ▸ g));have hst:Step B w F γ M (w.setRow b (dg R (i*a.size+da C) [γ k])) F γ (aB M [(k,Ob.gone),(id,.arr C a (l.set i y))]):=P6 hb hnF hBb hR;have d:∀ (j q:Nat),j≠i->q<a.size->(xs.set (i*a.size+da C) (γ k))[j*a.size+q]?= xs[j*a.size+q]? := λj q s E=>by
  refine ubi λhe=>?_;rcases ueq j i with f|f
  have:j*a.size+a.size<=i*a.size:=by rw[<- uex];exact ube _ f
  omega;have:i*a.size+a.size<=j*a.size:=by rw[<- uex];exact ube _ (by omega)
  omega
 have hsame:∀ q,q≠da C->(xs.set (i*a.size+da C) (γ k))[i*a.size+q]?= xs[i*a.size+q]? := λq E=>ubi (by omega);have D:(xs.set (i*a.size+da C) (γ k))[i*a.size+da C]?= U (γ k):=ua0 (by rw[r.own.1];exact hpos);have hsz:∀ (x:a.q) q c,(enc a x)[q]?= U c->q<a.size:=λx q c g=>by have:=(uak.1 g).1;rw[gV]at this;exact this
 have hoffc:da C<(enc a l[i]).length:=by rw[gV];exact z
 have hyo:(enc a y)[da C]?= U (.sl t' l2):=by obtain⟨c0,t1,x1,a1,a2,a3,a4⟩:=ro a K (da C) _ (uaq (by rw[gV];exact z));rw[ua0 hoffc]at a1;cases a1;rw[TN a2 a3]at a4;rw[uaq (by rw[gV];exact z)];exact ufu U (List.cons.inj a4).1.symm
 have hrow:∀ j x,(l.set i y)[j]?= U x->(j=i/\x=y)\/(j≠i/\l[j]?= U x):=λj x s=>by by_cases f:j=i;subst f;rw[ua0 hil]at s;exact .inl ⟨rfl,(ud4 s).symm⟩;rw[ubi (λe=>f e.symm)]at s;exact .inr ⟨f,s⟩
 have hinb:∀ j x,j≠i->l[j]?= U x->∀ u c,xs[j*a.size+da C]?= U u->u.ownBlock=U c->c≠b:=λj x s hx u c hu g he=>by obtain⟨_,_,u',_,_,b2,_,_,_,b6⟩:=r.inn j x hx s;rw[hu]at b2;cases b2;exact(b6 c g).1 (he ▸ hbo)
 have hkb:∀ c,(γ k).ownBlock=U c->c≠b:=λc g he=>H c g (.inl (he ▸ hbo));have hR2:RwOK P B (w.setRow b (dg R (i*a.size+da C) [γ k])) F (γ id) C a (l.set i y) (λ_=>False) (xs.set (i*a.size+da C) (γ k)):=by
  refine⟨by rw[udp];exact hset (γ k),r.nf,λu hu=>?_,?_,?_,?_⟩;rcases uap hu with f|f
  exact r.one u f;rw[f];exact N;intro j x q c s g E;rcases hrow j x s with ⟨rfl,rfl⟩|⟨f,S⟩
  obtain⟨c0,t1,x1,a1,a2,a3,a4⟩:=ro a K q c g;rw[ubi (λe=>E e.symm)]at a1;obtain⟨u,b1,b2⟩:=r.cells j _ q c0 (uaq hil) a1 E;exact⟨u,by rw[hsame q E];exact b1,bx.mono (λ_ h=>h) hFk (λ_ _ h=>h) c (J1 a3 a4 (r.one u (ubg b1)) b2)⟩;obtain⟨u,b1,b2⟩:=r.cells j x q c S g E;exact⟨u,by rw[d j q f (hsz _ _ _ g)];exact b1,bx.mono (λ_ h=>h) hFk (λ_ _ h=>h) c b2⟩;intro j x s _;rcases hrow j x s with ⟨rfl,rfl⟩|⟨f,S⟩
  exact⟨t',l2,γ k,zs,hyo,D,rS z1 (λc g=>L c (hkb c g)),z3.mono (λ_ h=>h) hFk,z4,λc g=>⟨λhe=>H c g (.inl he),z2 c g⟩⟩;obtain⟨tq,li,u,ys,b1,b2,b3,b4,b5,b6⟩:=r.inn j x S f;exact⟨tq,li,u,ys,b1,by rw[d j _ f z];exact b2,rS b3 (λc g=>L c (hinb j x f S u c b2 g)),b4.mono (λ_ h=>h) hFk,b5,b6⟩;intro p q up uq c hp E _ _ hpq O Q T W;rw[udp]at hp E;by_cases f:p=i;subst f;rw[D]at O;cases O;rw[d q _ (λe=>hpq e.symm) z]at Q;exact H c T (.inr ⟨q,uq,E,λe=>hpq e.symm,uv r.own Q,W⟩);by_cases S:q=i;subst S;rw[D]at Q;cases Q;rw[d p _ f z]at O;exact H c W (.inr ⟨p,up,hp,f,uv r.own O,T⟩);rw[d p _ f z]at O;rw[d q _ S z]at Q;exact r.disj p q up uq c hp E f S hpq O Q T W
 have hat:∀ j o,(j=id\/j=k)->aB M [(k,Ob.gone),(id,.arr C a (l.set i y))] j=U o->(j=id/\o=.arr C a (l.set i y))\/(j≠id/\o=.gone):=λj o hs s=>by rw[hM']at s;by_cases f:j=id;rw[ufw f]at s;exact .inl ⟨f,(ud4 s).symm⟩;rw[ufx f,ufw (hs.resolve_left f)]at s;exact .inr ⟨f,(ud4 s).symm⟩
 refine⟨rfl,_,hrun,hst,hm.re (λj=>j=id\/j=k) (λj s=>?_) (λ_ _=>rfl) hst.hw hR (λc _ hno=>L c (λhe=>hno id _ (.inl rfl) G (.inl (he ▸ hbo)))) ?_ ?_ ?_⟩;show aB M _ j=M j;rw[hM',ufx (λe=>s (.inl e)),ufx (λe=>s (.inr e))];intro j o hs s;rcases hat j o hs s with ⟨rfl,rfl⟩|⟨_,rfl⟩
 exact .inr (.inl ⟨r1,r2,_,hR2⟩);trivial;intro j o c hs s g;rcases hat j o hs s with ⟨rfl,rfl⟩|⟨_,rfl⟩
 refine .inl ?_;rcases g with g|⟨_,g⟩|g
 exact⟨j,_,.inl rfl,G,.inl g⟩;obtain⟨p,u,q1,_,q3,q4⟩:=CW hR2 g;rw[udp]at q1;by_cases f:p=i;subst f;rw[D]at q3;cases q3;exact⟨k,_,.inr rfl,hMk,.inl q4⟩;rw[d p _ f z]at q3;exact⟨j,_,.inl rfl,G,.inr ⟨p,u,q1,f,uv r.own q3,q4⟩⟩;exact absurd g (qg r.own c);exact g.elim;intro p q op oq c hs hs' hpq hp E T W;rcases hat p op hs hp with ⟨rfl,rfl⟩|⟨_,rfl⟩
 rcases hat q oq hs' E with ⟨rfl,rfl⟩|⟨_,rfl⟩
 exact hpq rfl;exact W;exact T
def zy5(hm:MemOK P B w F γ M)(hb:∀ b,F b->b<w.heap.size)(id:Nat):Step B w F γ M w F γ (ztg M id)/\MemOK P B w F γ (ztg M id):=by
 have C:Step B w F γ M w F γ M/\MemOK P B w F γ M:=⟨Step.refl hb,hm⟩;unfold ztg;split
 case h_2=>exact C
 rename_i s r l i k t;split
 case h_2=>exact C
 rename_i e2 t2 l2 K;split
 case h_2=>exact C
 rename_i t' ht';split
 case isFalse=>exact C
 rename_i m;obtain⟨rfl,rfl,r3,hne⟩:=m;split
 case h_2=>exact C
 rename_i y n;obtain⟨r1,r2,xs,d,T,uk,g,G⟩:=hm.ob id _ t;have G:uk=γ k:=by unfold av at G;rw[K]at G;exact G
 subst G;obtain⟨zs,z1,z2,z3,z4⟩:=iT.of (hm.ob k _ K) r3;have hgd:l.getD i r.j=l[i]:=by rw[uah,uaq T];rfl
 rw[hgd]at n;have hlen:=mN r n;have D:da s<r.size:=by
  unfold Pr at ht';split at ht'<;>try trivial
  rename_i E;have:=(uak.1 E).1;rw[gV]at this;exact this
 have S:∀ j,aB M [(k,Ob.gone),(id,.arr s r (l.set i y))] j=if j=id then U (.arr s r (l.set i y))else if j=k then U .gone else M j:=λj=>by simp only[aB,upd]
 have hR:∀ j u',av M γ j u'->av (aB M [(k,Ob.gone),(id,.arr s r (l.set i y))]) γ j u':=λj u' a=>by unfold av at a |-;rw[S];by_cases f:j=id;subst f;rw[t]at a;rw[ufw rfl];exact a;rw[ufx f];by_cases H:j=k;subst H;rw[ufw rfl];trivial;rw[ufx H];exact a
 have v:∀ c,(γ k).ownBlock=U c->¬ cg w (.hole s r l i k) (γ id) c:=λc m hc'=>hm.apart k id _ _ c (λe=>hne e.symm) K t (.inl m) hc';have W:da s<(enc r l[i]).length:=by rw[gV];exact D
 have hyo:(enc r y)[da s]?= U (.sl t' l2):=by obtain⟨c0,t1,x1,a1,a2,a3,a4⟩:=ro r n (da s) _ (uaq (by rw[gV];exact D));rw[ua0 W]at a1;cases a1;rw[TN a2 a3]at a4;rw[uaq (by rw[gV];exact D)];exact ufu U (List.cons.inj a4).1.symm
 have R:∀ j x,(l.set i y)[j]?= U x->(j=i/\x=y)\/(j≠i/\l[j]?= U x):=λj x a=>by by_cases f:j=i;subst f;rw[ua0 T]at a;exact .inl ⟨rfl,(ud4 a).symm⟩;rw[ubi (λe=>f e.symm)]at a;exact .inr ⟨f,a⟩
 have hR2:RwOK P B w F (γ id) s r (l.set i y) (λ_=>False) xs:=by
  refine⟨by rw[udp];exact d.own,d.nf,d.one,?_,?_,?_⟩;intro j x q c a m E;rcases R j x a with ⟨rfl,rfl⟩|⟨f,H⟩
  obtain⟨c0,t1,x1,a1,a2,a3,a4⟩:=ro r n q c m;rw[ubi (λe=>E e.symm)]at a1;obtain⟨u,b1,b2⟩:=d.cells j _ q c0 (uaq T) a1 E;exact⟨u,b1,J1 a3 a4 (d.one u (ubg b1)) b2⟩;exact d.cells j x q c H m E;intro j x a _;rcases R j x a with ⟨rfl,rfl⟩|⟨f,H⟩
  exact⟨t',l2,γ k,zs,hyo,g,z1,z3,z4,λc m=>⟨λhe=>v c m (.inl he),z2 c m⟩⟩;exact d.inn j x H f;intro p q up uq c hp E _ _ N O Q z A;rw[udp]at hp E;by_cases f:p=i;subst f;rw[g]at O;cases O;exact v c z (.inr ⟨q,uq,E,λe=>N e.symm,uv d.own Q,A⟩);by_cases H:q=i;subst H;rw[g]at Q;cases Q;exact v c A (.inr ⟨p,up,hp,f,uv d.own O,z⟩);exact d.disj p q up uq c hp E f H N O Q z A
 have L:∀ j o,(j=id\/j=k)->aB M [(k,Ob.gone),(id,.arr s r (l.set i y))] j=U o->(j=id/\o=.arr s r (l.set i y))\/(j≠id/\o=.gone):=λj o hs a=>by rw[S]at a;by_cases f:j=id;rw[ufw f]at a;exact .inl ⟨f,(ud4 a).symm⟩;rw[ufx f,ufw (hs.resolve_left f)]at a;exact .inr ⟨f,(ud4 a).symm⟩
 refine⟨⟨λ_ h=>h,λ_ _=>rfl,hR,λ_ _=>rfl,rfl,rfl,rfl,ufb _,hb,λ_ h=>.inl h⟩,hm.re (λj=>j=id\/j=k) (λj a=>?_) (λ_ _=>rfl) (λ_ _=>rfl) hR (λ_ _ _=>rfl) ?_ ?_ ?_⟩;show aB M _ j=M j;rw[S,ufx (λe=>a (.inl e)),ufx (λe=>a (.inr e))];intro j o hs a;rcases L j o hs a with ⟨rfl,rfl⟩|⟨_,rfl⟩
 exact .inr (.inl ⟨r1,r2,_,hR2⟩);trivial;intro j o c hs a m;rcases L j o hs a with ⟨rfl,rfl⟩|⟨_,rfl⟩
 refine .inl ?_;rcases m with m|⟨_,m⟩|m
 exact⟨j,_,.inl rfl,t,.inl m⟩;obtain⟨p,u,q1,_,q3,q4⟩:=CW hR2 m;rw[udp]at q1;by_cases f:p=i;subst f;rw[g]at q3;cases q3;exact⟨k,_,.inr rfl,K,.inl q4⟩;exact⟨j,_,.inl rfl,t,.inr ⟨p,u,q1,f,uv d.own q3,q4⟩⟩;exact absurd m (qg d.own c);exact m.elim;intro p q op oq c hs hs' N hp E z A;rcases L p op hs hp with ⟨rfl,rfl⟩|⟨_,rfl⟩
 rcases L q oq hs' E with ⟨rfl,rfl⟩|⟨_,rfl⟩
 exact N rfl;exact A;exact z
def Fc{a:TypeId}(c:P.underlying a=U (.int .i64))(b:Bool)(d:Nat)(n:Int):(Instr.checkKey b (d+1) a (.int .i64 n)).run P w=.ok () w:=by simp[Instr.checkKey,ud6 c]
def Mm{n:Int}:(es:List MapEntry)->(l:List (Int×α))->(i:Nat)->es.length=l.length->(∀ (j:Nat) (e:MapEntry) (x:Int×α),es[j]?= U e->l[j]?= U x->e.key=.int .i64 x.1) ->
  (Instr.findNow (.int .i64) (.int .i64 n) es i=U V/\(∀ z,jf l n z=z)/\∀ y,eZ l n y=l++[(n,y)]) \/
  (∃ (j:Nat) (e:MapEntry) (x:Int×α),Instr.findNow (.int .i64) (.int .i64 n) es i=U (U (i+j,e.val))/\es[j]?= U e/\l[j]?= U x/\x.1=n/\(∀ z,jf l n z=x.2)/\∀ y,eZ l n y=l.set j (n,y))
 |[],[],i,_,_=>.inl ⟨rfl,λ_=>rfl,λ_=>rfl⟩
 |[],_::_,_,h,_=>by simp at h
 |_::_,[],_,h,_=>by simp at h
 |e::es,x::l,i,h,m=>by
  have t:e.key=.int .i64 x.1:=m 0 e x rfl rfl;simp only[Instr.findNow,t,Instr.sameNow,if_true];by_cases a:x.1=n;refine .inr ⟨0,e,x,by simp[a],rfl,rfl,a,λz=>by simp[jf,a],λy=>by simp[eZ,a]⟩;have s:(n==x.1)=false:=by rw[ubw];exact λh=>a h.symm
  have b:(x.1==n)=false:=by rw[ubw];exact a
  simp only[s];rcases Mm (n:=n) es l (i+1) (by simpa using h) (λj g k u v=>m (j+1) g k (by simpa using u) (by simpa using v))with ⟨c,d,f⟩|⟨j,g,k,c,d,f,o,p,r⟩
  refine .inl ⟨c,λz=>?_,λy=>?_⟩;have:=d z;simp only[jf]at this |-;rw[List.find?_cons,b];exact this;simp[eZ,b,f];refine .inr ⟨j+1,g,k,?_,by simpa using d,by simpa using f,o,λz=>?_,λy=>?_⟩;rw[c];congr 3;omega;have:=p z;simp only[jf]at this |-;rw[List.find?_cons,b];exact this;simp[eZ,b,r]
def NN{a:Ty}(h:Cf P t=U (e,a)):∃ k,P.underlying t=U (.map k e)/\P.underlying k=U (.int .i64)/\a.flat=Z/\a.wide=false:=by
 unfold Cf at h;split at h<;>try trivial
 rename_i k g d;split at h<;>try trivial
 rename_i f c _;split at h<;>try trivial
 rename_i b;cases h;exact⟨k,d,c,b⟩
def Pq{t:Ty}(h:t.wide=Y):t.size=1:=by cases t<;>first|rfl|(simp[Ty.wide]at h)
def Oj(h:v.oneCell'=Z):v.cells = #[v]:=by cases v<;>first|rfl|simp[Value.oneCell']at h
def zgc{e:Eff}(s:MemOK P B w F γ M)(f:∀ b,F b->b<w.heap.size)(l:B<=w.heap.size)(p:m d=V->M d=V)(h:NJ P d t m=U e):
  ∃ u w' γ',(Instr.makeMap t V).run P w=.ok u w'/\Step B w F γ M w' F γ' (aB M e.wr)/\MemOK P B w' F γ' (aB M e.wr)/\aK P w' F (av (aB M e.wr) γ') e.v u:=by
 unfold NJ at h;split at h<;>try trivial
 rename_i E D y g;cases h;obtain⟨k,_,_,o,G⟩:=NN y;have c:∀ b,b<w.heap.size->(w.alloc (.map #[] 0)).heap[b]?= w.heap[b]? := λb h=>udb _ _ _ h;obtain⟨A,C⟩:=s.mk_ [] (O:=.arr fh (.pair (.int .i64) D) []) (v:=.map (U w.heap.size)) (p g) (λk r=>by simp at r) (by simp) f l (λb a=>c b (f b a)) rfl rfl rfl (by simp) (λb a _=>c b a)
  (.inr (.inr ⟨ufb _,_,#[],0,rfl,ud8 w _,λh=>by have:=f _ h;omega,l,by simp[Ty.flat,o],rfl,ufh _,λi x z=>by simp at z⟩)) (by
   intro b a;rcases a with a|⟨_,i,u,n,_⟩|a
   simp[Value.ownBlock]at a;exact absurd n (Nat.not_lt_zero i);cases a;exact .inr (ufb _))
 exact⟨_,_,_,rfl,A,C,Cu [] (by simp) rfl⟩
def Aq.of{e:Nat}{t:Ty}{l:List t.q}(h:iA P B w F R v (.arr e t l))(a:fh<=e):Aq B w F t l v:=by
 rcases h with ⟨k,_⟩|⟨_,k,_⟩|⟨_,h⟩
 exact absurd (Nat.lt_trans k (by decide)) (Nat.not_lt.2 a);exact absurd k (Nat.not_lt.2 a);exact h
def zcx{id:Nat}{n:Int}{e:Eff}(hm:MemOK P B w F γ M)(o:∀ i y,m i=U y->M i=U y)(h:NF P t id n m=U e)(hx:aK P w F (av M γ) (.c (.own id)) v):
  e.wr=[]/\∃ u,(Instr.lookup t v (.int .i64 n) Y).run P w=.ok u w/\aK P w F (av M γ) e.v u:=by
 unfold NF at h;split at h<;>try trivial
 rename_i el vt eb W l ht K;split at h<;>try trivial
 rename_i z O;split at h<;>try trivial
 rename_i z0 Q;split at h<;>try trivial
 rename_i hc;obtain⟨G,rfl⟩:=hc;cases h;obtain⟨k,h1,C,h3,D⟩:=NN ht;have hM:=o _ _ K;have hv:=fV hM (by simp) hx.2;subst hv;obtain⟨b,a,ck,q1,q2,q3,q4,q5,q6,q7,q8⟩:=Aq.of (hm.ob id _ hM) G;have S:(zeroValue el).run P w=.ok z w:=by
  cases H:P.info? el with
  |none=>simp[H]at O
  |some i=>simp[H]at O;simp[zeroValue,typeInfo,H,O]
 have d:(Instr.checkKey a.isEmpty 10000 k (.int .i64 n)).run P w=.ok () w:=Fc C a.isEmpty 9999 n;have g:(getObj b).run P w=.ok (.map a ck) w:=by simp[getObj,Sem.run,q2]
 refine⟨rfl,?_⟩;have f:∀ (j:Nat) (e:MapEntry) (x:Int×W.q),a.toList[j]?= U e->l[j]?= U x->e.key=.int .i64 x.1:=λj e x he N=>by obtain⟨e',p,_,_,T⟩:=q8 j x N;rw[ua5]at he;rw[he]at p;cases p;have:=T.1.1;simpa using this
 rcases Mm (n:=n) a.toList l 0 (by simpa using q6) f with ⟨A,r,_⟩|⟨j,e',x,A,r,a3,a4,a5,_⟩
 refine⟨z,?_,?_⟩;rw[q1];simp[Instr.lookup,ud6 h1,g,d,Instr.findKey,ud6 C,A,S];rw[r];exact iH (tR Q (wC (P:=P) (R:=λ_ _=>False) z));refine⟨e'.val,?_,?_⟩;rw[q1];simp[Instr.lookup,ud6 h1,g,d,Instr.findKey,ud6 C,A];rw[a5];obtain⟨e'',p,_,s,T⟩:=q8 j x a3;rw[ua5]at r;rw[r]at p;cases p;refine iH ⟨by rw[Oj s,Pq D];rfl,⟨λhw=>(by rw[D]at hw;cases hw),λ⟨cs,E⟩=>(by rw[E]at s;simp[Value.oneCell']at s)⟩,?_⟩;refine(aG.flat (w':=w) (F':=F) h3 T.2).mono (λ_ h=>h) (λ_ _=>rfl) λq u hq hu=>?_;rw[Pq D]at hq;have L:q=0:=by omega
 subst L;rw[Oj s];simpa[Ty.size]using hu
def zre{id:Nat}{n:Int}{x:AV}{e:Eff}(hm:MemOK P B w F γ M)(hb:∀ b,F b->b<w.heap.size)(hsub:∀ i y,m i=some y->M i=some y)(h:PY P t id n x m=some e)(hn:az e.need)(hin:inR .i64 n)(hv:aK P w F (av M γ) (.c (.own id)) v)(hx:aK P w F (av M γ) x vx):
  e.v=.dead/\∃ w',(Instr.mapUpdate t v (.int .i64 n) vx).run P w=.ok () w'/\Step B w F γ M w' F γ (aB M e.wr)/\MemOK P B w' F γ (aB M e.wr):=by
 unfold PY at h;split at h<;>try trivial
 rename_i el vt eb vt' l ht hid;split at h<;>try trivial
 rename_i y hy;split at h<;>try trivial
 rename_i hc;obtain⟨hge,rfl⟩:=hc;cases h;have hlen:l.length<maxLen:=hn;obtain⟨k,h1,h2,h3,h4⟩:=NN ht;have hM:=hsub _ _ hid;have hv:=fV hM (by simp) hv.2;subst hv;obtain⟨b,es,ck,q1,q2,q3,q4,q5,q6,q7,q8⟩:=Aq.of (hm.ob id _ hM) hge;have hck:(Instr.checkKey false 10000 k (.int .i64 n)).run P w=.ok () w:=Fc h2 false 9999 n;have hob:(getObj b).run P w=.ok (.map es ck) w:=by simp[getObj,Sem.run,q2]
 have hblt:b<w.heap.size:=(uaf.1 q2).1;have hso:∀ o:Obj,(setObj b o).run P w=.ok () { w with heap:=w.heap.setIfInBounds b o }:=λo=>by simp[setObj,Sem.run,q2]
 have hkey:∀ (j:Nat) (e:MapEntry) (x:Int×vt'.q),es.toList[j]?= some e->l[j]?= some x->e.key=.int .i64 x.1:=λj e x he hx'=>by
  obtain⟨e',k1,_,_,k4⟩:=q8 j x hx';rw[ua5]at he;rw[he]at k1;cases k1;have:=k4.1.1;simpa using this
 obtain⟨d1,d2,d3⟩:=tR hy hx;have hone:vx.oneCell'=true:=by
  cases hvx:vx with
  |agg cs=>
   have:=d2.2 ⟨cs,hvx⟩;rw[h4]at this;cases this
  |tuple cs=>
   rw[hvx]at hx;cases x with
   |c a=>simp[aK,Value.oneCell']at hx
   |agg cs=>simp[aK]at hx
   |_=>simp[nX]at hy
  |_=>rfl
 have hrep:aG w (λ_=>False) vt' y (λj u=>j=0/\u=vx):=by
  refine(aG.flat (w':=w) (F':=λ_=>False) h3 d3).mono (λ_ h=>h) (λ_ _=>rfl) λj u hj hu=>?_;rw[Pq h4]at hj;have hj0:j=0:=by omega
  subst hj0;rw[Oj hone]at hu;exact⟨rfl,by simpa using hu.symm⟩
 have hpair:aG w (λ_=>False) (.pair (.int .i64) vt') (n,y) (λj u=>[Value.int .i64 n,vx][j]?= some u):=by
  refine⟨⟨by simp,hin⟩,hrep.mono (λ_ h=>h) (λ_ _=>rfl) λj u _ hu=>?_⟩;obtain⟨rfl,rfl⟩:=hu;simp[Ty.size]
 have hend:∀ (es':Array MapEntry) ck',es'.size=(eZ l n y).length->(eZ l n y).length<=maxLen->(∀ (i:Nat) x,(eZ l n y)[i]?= some x->∃ e,es'[i]?= some e/\e.key.oneCell'=true/\e.val.oneCell'=true/\aG w (λ_=>False) (.pair (.int .i64) vt') x (λj u=>[e.key,e.val][j]?= some u)) ->
   Step B w F γ M { w with heap:=w.heap.setIfInBounds b (.map es' ck') } F γ (aB M [(id,.arr eb (.pair (.int .i64) vt') (eZ l n y))])/\MemOK P B { w with heap:=w.heap.setIfInBounds b (.map es' ck') } F γ (aB M [(id,.arr eb (.pair (.int .i64) vt') (eZ l n y))]):=by
  intro es' ck' g1 g2 g3;have hoth:∀ c,c≠b->({ w with heap:=w.heap.setIfInBounds b (.map es' ck') }:World).heap[c]?= w.heap[c]? := λc hc=>by
   show(w.heap.setIfInBounds b _)[c]?= _;rw[Array.getElem?_setIfInBounds];rw[ufx (λe=>hc e.symm)]
  have hsame:({ w with heap:=w.heap.setIfInBounds b (.map es' ck') }:World).heap[b]?= some (.map es' ck'):=by
   show(w.heap.setIfInBounds b _)[b]?= _;rw[Array.getElem?_setIfInBounds];simp[hblt]
  have hst:Step B w F γ M { w with heap:=w.heap.setIfInBounds b (.map es' ck') } F γ (upd M id (.arr eb (.pair (.int .i64) vt') (eZ l n y))):=
   ⟨λ_ h=>h,λc h=>hoth c (λe=>q3 (e ▸ h)),qm hM (by simp),λc h=>hoth c (by omega),rfl,rfl,rfl,by simp,λc h=>by have:=hb c h;simpa using this,λ_ h=>.inl h⟩
  refine⟨hst,hm.change hM (by simp) hst.hF hst.hw (λc hc=>?_) (λc _ hne=>⟨hoth c (λe=>hne (.inr (.inr (e ▸ q1)))),λh=>h⟩) (.inr (.inr ⟨hge,b,es',ck',q1,hsame,q3,q4,q5,g1,g2,λi x hx=>?_⟩))⟩
  ·rcases hc with hc|⟨_,i,u,_,_,⟨A,_,_,hc,_⟩,_⟩|hc
   ·rw[q1]at hc;simp[Value.ownBlock]at hc
   ·rw[q1]at hc;cases hc
   ·exact .inr (.inr hc)
  ·obtain⟨e,k1,k2,k3,k4⟩:=g3 i x hx;exact⟨e,k1,k2,k3,k4.mono (λ_ h=>h) (λ_ h=>h.elim) (λ_ _ _ h=>h)⟩
 refine⟨rfl,?_⟩;rcases Mm (n:=n) es.toList l 0 (by simpa using q6) hkey with ⟨a1,_,a3⟩|⟨j,e',x',a1,a2,a3,a4,_,a6⟩
 ·rw[a3]at hend |-;refine⟨_,?_,hend (es.push ⟨.int .i64 n,vx,ck⟩) (ck+1) (by simp[q6]) (by simp;omega) λi x hx=>?_⟩
  ·rw[q1];simp[Instr.mapUpdate,ud6 h1,hob,hck,Instr.findKey,ud6 h2,a1,hso]
  ·rcases ueq i l.length with hi|hi
   ·rw[uaj hi]at hx;obtain⟨e,k1,k2⟩:=q8 i x hx;exact⟨e,by rw[Array.getElem?_push_lt (by omega)];rw[uam (by omega)]at k1;exact k1,k2⟩
   ·rw[uae hi]at hx;have hi0:i-l.length=0:=by
     have:=(uak.1 hx).1;simp at this;omega
    rw[hi0]at hx;simp at hx;subst hx;refine⟨⟨.int .i64 n,vx,ck⟩,?_,rfl,hone,hpair⟩;have:i=es.size:=by omega
    subst this;simp
 ·have a2':es[j]?= some e':=by rw[<- ua5];exact a2
  rw[a6]at hend |-;have hkx:=hkey j e' x' a2 a3;have hjl:j<l.length:=(uak.1 a3).1;have hsb:(Instr.keyThatStays e'.key (.int .i64 n)).run P w=.ok (.int .i64 n) w:=by
   rw[hkx,a4];simp[Instr.keyThatStays,Instr.sameBits]
  refine⟨_,?_,hend (es.modify j λe=>{ e with key:=.int .i64 n,val:=vx }) ck (by simp[q6]) (by simp;omega) λi x hx=>?_⟩
  ·rw[q1];simp[Instr.mapUpdate,ud6 h1,hob,hck,Instr.findKey,ud6 h2,a1,a2',hsb,hso]
  ·by_cases hi:i=j
   ·subst hi;rw[ua0 hjl]at hx;cases hx;exact⟨{ e' with key:=.int .i64 n,val:=vx },by rw[Array.getElem?_modify];simp[a2'],rfl,hone,hpair⟩
   ·rw[ubi (λe=>hi e.symm)]at hx;obtain⟨e,k1,k2⟩:=q8 i x hx;exact⟨e,by rw[Array.getElem?_modify];simp[hi,Ne.symm hi,k1],k2⟩
def qzt{x:AV}{e:Eff}(h:Nl P t x=U e)(i:aK P w F R x v):e.wr=[]/\∃ u,(Instr.makeInterface t v).run P w=.ok u w/\aK P w F R e.v u:=by
 unfold Nl at h;split at h<;>try trivial
 rename_i p id a;cases h;obtain⟨_,b,c,rfl⟩:=i;exact⟨rfl,_,by simp[Instr.makeInterface,ud6 a],rfl,b,c,rfl⟩;rename_i d a _;split at h<;>try trivial
 rename_i r g;split at h<;>try trivial
 rename_i y o;cases h;obtain⟨c,l,m⟩:=tR o i;have f:∀ k,d ≠ .interface k:=λk n=>by subst n;simp[mD,a]at g
 refine⟨rfl,.iface t v,?_,rfl,.inl ⟨t,v,by simp[dd],rfl,c,l,m⟩⟩;simp only[Instr.makeInterface,uet,ud6 a,ucm];cases d<;>first|(exact absurd rfl (f _))|rfl
def qlh{xt:TypeId}{ok:Bool}{g:List (Int×Nat)}{t:Ty}{x:Int×t.q}{e:Eff}(h:Jz P ty ok g t x=U e)(p:az e.need)(s:aK P w F R (.c (.ic g t x)) v):
  e.wr=[]/\∃ u,(Instr.typeAssert v xt ty ok).run P w=.ok u w/\aK P w F R e.v u:=by
 have f:(∃ d,P.underlying ty=U d/\∀ m,d ≠ .interface m)->dd g x.1=U ty->∃ u,(Instr.typeAssert v xt ty ok).run P w=.ok u w/\aK P w F R (if ok then .tup [eR t x.2,.c (.bool Z)]else eR t x.2) u:=by
  rintro⟨d,n,a⟩ o;rcases Gn s.2 with ⟨z,u,b,rfl,y⟩|⟨b,_⟩
  rw[o]at b;cases b;have r:=iH (P:=P) (R:=R) y;cases ok with
  |true=>
   refine⟨.tuple #[u,.bool Z],?_,?_⟩;simp only[Instr.typeAssert,uet,ud6 n,ucm];cases d<;>first|(exact absurd rfl (a _))|simp
   exact⟨_,rfl,rfl,⟨u,rfl,r⟩,⟨_,rfl,rfl,rfl⟩,uT⟩
  |false=>refine⟨u,?_,r⟩;simp only[Instr.typeAssert,uet,ud6 n,ucm];cases d<;>first|(exact absurd rfl (a _))|simp
  rw[o]at b;cases b
 unfold Jz at h;split at h<;>try trivial
 rename_i A k l;cases h;exact⟨rfl,f ⟨_,l,λm i=>by cases i⟩ p⟩;rename_i q k l;cases h;exact⟨rfl,f ⟨_,l,λm i=>by cases i⟩ p⟩
def zcw(s:io P Γ){Q:AV}{a:List AV}{e:Eff}{W:Value}(T:MemOK P B w F γ M)(C:∀ b,F b->b<w.heap.size)(hB:B<=w.heap.size)(r:∀ i y,m i=U y->M i=U y)(h:NE Γ Q a m=U e)(hn:az e.need)(hf:aK P w F (av M γ) Q W)(ha:bI P w F (av M γ) a vs):
  e.wr=[]/\∃ f d,W=.func (.func f) #[] d/\(∀ a L,(callFunc f a).run P L=.ok (.enter f a) L)/\Calls P f (vs.toArray++d) w λO w'=>∃ u,O=.returned u/\Step B w F γ M w' F γ M/\MemOK P B w' F γ M/\aK P w' F (av M γ) e.v u:=by
 unfold NE at h;split at h<;>try trivial
 split at h<;>try trivial
 rename_i f d A u K;split at h<;>try trivial
 rename_i ct D;split at h<;>try trivial
 rename_i l;split at h<;>try trivial
 rename_i x n hx;cases h;obtain⟨N,z,m1,t1,r1⟩:=ke T C (dM.of r) K ha;obtain⟨_,t,rfl,e1,e2⟩:=hf;obtain⟨E,G⟩:=lj.1 hn;have k:bI P w N (av (aB M u) γ) (d.map .c) t.toList:=EZ (by simpa using e1) (aS.mono z.hF z.hw z.hR d (λ_ _ h=>h) (by simpa using e2));have H:=pI s hx E (r1.append k);obtain⟨q1,q2⟩:=s.1 f ct D;refine⟨rfl,f,t,rfl,q1,?_⟩;have S:=q2 w N x _ z.bd H G;have fU:(vs++t.toList).toArray=vs.toArray++t:=by simp
 rw[fU]at S;refine S.mono λO L hp=>?_;obtain⟨v2,F2,rfl,g,hF2,R,p⟩:=hp;obtain⟨s2,m2⟩:=Step.below (F':=F) T hB C g (λ_ h=>h) (λb o=>⟨.inl o,ucb (C b o) g.size⟩);exact⟨v2,rfl,s2,m2,xq (p.flat l)⟩
def Zb{e:Eff}{S:Sem Unit}(d:execOp a.eval o=(do S;pure .skip:Sem Next))(b:e.v=.dead)(g:S.run P w=.ok () w')(h:Step B w F γ M w' F γ (aB M e.wr))(f:MemOK P B w' F γ (aB M e.wr)):wz P B o a w F γ M e.v e.wr:=by
 rw[b];intro K Q c;unfold Oper.wp;have:(execOp a.eval o).run P w=.ok .skip w':=by rw[d];simp[g]
 rw[this];exact c undef w' F γ h f trivial
def qpf(hΓ:io P Γ){op:Op}{vs:List AV}{e:Eff}(O:o.op=op)(L:MemOK P B w F γ M)(N:∀ b,F b->b<w.heap.size)(hB:B<=w.heap.size)(z:∀ i y,m i=U y->M i=U y)(hd:m d=V->M d=V)(D:KR P Γ d op vs m=U e)(hn:az e.need)(p:bI P w F (av M γ) vs (op.operands.toList.map a.eval)):wz P B o a w F γ M e.v e.wr:=by
 unfold KR at D;split at D<;>try trivial
 rename_i t n ps v;split at D<;>try trivial
 rename_i el ht;split at D<;>try trivial
 rename_i G;obtain⟨rfl,R⟩:=G;obtain⟨h,rfl⟩:∃ h,ps = #[(0,h)]:=by
  have l:ps.toList.length=1:=by simpa using ufu List.length R
  match hp:ps.toList,l with
  |[(i,h)],_=>rw[hp]at R;simp at R;subst R;exact⟨h,by rw[<- uc7,hp]⟩
 have hx:aK P w F (av M γ) v (a.eval h):=by
  have l:(Op.buildSlice t 1 #[(0,h)]).operands.toList.map a.eval=[a.eval h]:=by simp[Op.operands]
  rw[l]at p;exact p.1
 obtain⟨u,w',T,l,A,C,H⟩:=qmc L N hB z hd ht D hx;exact jW (dn (S:=Instr.buildSlice t 1 #[(0,a.eval h)]) (by unfold execOp;rw[O];simp) l) A C H;rename_i t n0 c0 kn n kc c;obtain⟨⟨_,e1,_⟩,⟨_,e2,_⟩,_⟩:=p;obtain⟨u,w',T,l,A,C,H⟩:=zga (kn:=kn) (kc:=kc) L N hB hd D hn;exact jW (dn (S:=Instr.makeSlice t (a.eval n0) (a.eval c0)) (by unfold execOp;rw[O]) (by rw[e1,e2];exact l)) A C H;rename_i t h id sz i off;obtain⟨u,T,l,A,C,H⟩:=zcv L N z hd D hn p.1;exact jW (dn (S:=Instr.loadAt t (a.eval h)) (by unfold execOp;rw[O]) l) A C H;rename_i t h v0 id sz i off k;obtain⟨l,w',A,C,H⟩:=zox L N z D hn p.1 p.2.1;exact Zb (S:=Instr.storeAt t (a.eval h) (a.eval v0)) (by unfold execOp;rw[O]) l A C H;rename_i g ts s k;split at D<;>try trivial
 rename_i t t' hts;split at D<;>try trivial
 rename_i htt;subst htt;have E:(Op.call ⟨.builtin .append,g,ts⟩).operands.toList.map a.eval=(g.map a.eval).toList:=by simp[Op.operands,Call.operands]
 rw[E]at p;obtain⟨v1,v2,hv,hs,hx⟩:∃ v1 v2,g.map a.eval = #[v1,v2]/\aK P w F (av M γ) s v1/\aK P w F (av M γ) (.c (.own k)) v2:=by
  cases hl:(g.map a.eval).toList with
  |nil=>rw[hl]at p;exact p.elim
  |cons v r=>cases r with
   |nil=>rw[hl]at p;exact p.2.elim
   |cons v2 r=>cases r with
    |nil=>rw[hl]at p;exact⟨v,v2,by rw[<- uc7,hl],p.1,p.2.1⟩
    |cons _ _=>rw[hl]at p;exact p.2.2.elim
 have hts':ts = #[t,t]:=by rw[<- uc7,hts]
 obtain⟨u,w',T,A,C,H,h5⟩:=qlf (ty:=0) L N hB z hd D hn hs hx;refine jW ?_ C H h5;unfold execOp;rw[O];simp only[resolve,uet,uev,ucm,invoke,hv,hts'];have hbb:∀ ty cs,builtin .append #[t,t] ty cs #[v1,v2]=(do pure (.value (<- Builtin.append_ #[t,t] 0 #[v1,v2])):Sem Next):=λty cs=>rfl;rw[hbb];simp[A];rename_i t;obtain⟨u,w',T,l,A,C,H⟩:=zgc L N hB hd D;exact jW (dn (S:=Instr.makeMap t V) (by unfold execOp;rw[O];rfl) l) A C H;rename_i t h y0 id n;obtain⟨hx,⟨_,hy,_⟩,_⟩:=p;obtain⟨l,u,A,C⟩:=zcx L z D hx;rw[l];exact eo L N (dn (S:=Instr.lookup t (a.eval h) (a.eval y0) Y) (by unfold execOp;rw[O]) (by rw[hy];exact A)) C;rename_i t h y0 z0 id n v;obtain⟨hx,⟨_,hy,hin⟩,hv,_⟩:=p;obtain⟨l,w',A,C,H⟩:=zre L N z D hn hin hx hv;exact Zb (S:=Instr.mapUpdate t (a.eval h) (a.eval y0) (a.eval z0)) (by unfold execOp;rw[O]) l (by rw[hy];exact A) C H;rename_i t h v;obtain⟨l,u,A,C⟩:=qzt D p.1;rw[l];exact eo L N (dn (S:=Instr.makeInterface t (a.eval h)) (by unfold execOp;rw[O]) A) C;rename_i h xt ty ok es t x;obtain⟨l,u,A,C⟩:=qlh (xt:=xt) D hn p.1;rw[l];exact eo L N (dn (S:=Instr.typeAssert (a.eval h) xt ty ok) (by unfold execOp;rw[O]) A) C;rename_i f first cap id
 split at D<;>try trivial
 rename_i G;cases D;obtain⟨l,A⟩:=G;obtain⟨h,rfl⟩:∃ h,first = #[h]:=Array.size_eq_one_iff.1 l
 obtain rfl:=Array.eq_empty_of_size_eq_zero A;have E:(Op.makeFunc (.func f) #[h] #[]).operands.toList.map a.eval=[a.eval h]:=by simp[Op.operands]
 rw[E]at p;obtain⟨⟨_,b,e1,e2⟩,_⟩:=p;refine eo L N (dn (S:=Instr.makeFunc (.func f) ((#[h]:Array Operand).map a.eval) ((#[]:Array Operand).map a.eval)) (u:=.func (.func f) #[a.eval h] #[]) (by unfold execOp;rw[O]) (by simp[Instr.makeFunc])) ⟨rfl,b,e1,by rw[e2]⟩;rename_i f0 g ts fv args;have E:(Op.call ⟨.value f0,g,ts⟩).operands.toList.map a.eval=a.eval f0::(g.map a.eval).toList:=by simp[Op.operands,Call.operands]
 rw[E]at p;obtain⟨l,f,W,e1,e2,e3⟩:=zcw hΓ L N hB z D hn p.1 p.2;rw[l];intro K Q hK;unfold Oper.wp;have hrun:(execOp a.eval o).run P w=.ok (.enter f (g.map a.eval++W)) w:=by unfold execOp;rw[O];simp[resolve,e1,Deferred.ofValue,invoke,e2]
 rw[hrun];show Calls P f (g.map a.eval++W) w _;rw[ubf]at e3;refine e3.mono λen w2 hp=>?_;obtain⟨u,rfl,s1,m1,r1⟩:=hp;exact hK u w2 F γ s1 m1 r1
def qax{a:String}{r:Bool}(h:NS P a ty=U (f,r))(c:Addr)(e:Array Value):
  (r=Y->(callMethod (.iface ty (.pointer (U c))) a e).run P w=(callFunc f (#[.pointer (U c)]++e)).run P w) /\
  (r=Z->∀ u,w.cell? c=U u->(callMethod (.iface ty (.pointer (U c))) a e).run P w=(callFunc f (#[u]++e)).run P w):=by
 unfold NS at h;split at h<;>try trivial
 rename_i i B x z;split at h<;>try trivial
 rename_i K g;split at h<;>try trivial
 rename_i t A v;split at h<;>try trivial
 rename_i o;obtain⟨o,p⟩:=o;simp at h;obtain⟨rfl,m⟩:=h;have k:K.path = #[]:=by simpa using o
 have F:P.types.size+Made.depth-1+1=P.types.size+Made.depth:=by unfold Made.depth;omega
 have l:∀ u,(method (P.types.size+Made.depth-1+1) ty (.pointer (U c)) a).run P w=.ok (t,u) w->(callMethod (.iface ty (.pointer (U c))) a e).run P w=(callFunc t (#[u]++e)).run P w:=λu y=>by rw[F]at y;simp only[callMethod,uet,run_program,ucm];rw[y];simp
 refine⟨λd=>l _ ?_,λd u E=>l u ?_⟩;have b:A=true:=by rw[d]at m;simpa using m
 subst b;simp[method,typeInfo,x,g,k,v,follow,receiverAt,ud6 z,Place.get];have b:A=false:=by rw[d]at m;simpa using m
 subst b;obtain⟨_,C,D⟩:=p.resolve_left (by simp);obtain⟨L,n⟩:=uar.1 C;have G:(loadVar B c).run P w=.ok u w:=by simp[loadVar,CV n,D,Sem.run,E]
 have H:∀ s:String,(Builtin.ssaWrapNilChk_ #[ty] ty #[.pointer (U c),strVal "", strVal s]).run P w=.ok (.pointer (U c)) w:=λs=>rfl;simp[method,typeInfo,x,g,k,v,follow,receiverAt,ud6 z,Place.get,H,asAddr,G]
end
section
variable {P:Program} {B:Nat} {o:Oper} {a:Act} {w w':World} {F F':Nat->Prop} {γ γ':Nat->Value} {M m:aX} {R:Nat->Value->Prop} {Γ:Gm}
def qed{idx:List Nat}:{xs:List AV} -> {vs:List Value}->bI P w F R xs vs->∀ (q i:Nat) (x:AV) (v:Nat×Value),(idx.zip xs)[q]?= U (i,x)->(idx.zip vs)[q]?= U v->v.1=i/\aK P w F R x v.2:=by
 induction idx with
 |nil=>intro xs vs _ q i x v h;simp at h
 |cons k idx d=>
  intro xs vs c q i x v a b;cases xs with
  |nil=>simp at a
  |cons y xs=>cases vs with
   |nil=>exact c.elim
   |cons u vs=>cases q with
    |zero=>simp at a b;obtain⟨rfl,rfl⟩:=a;subst b;exact⟨rfl,c.1⟩
    |succ q=>exact d c.2 q i x v (by simpa using a) (by simpa using b)
def kp(P:Program)(w:World)(F:Nat->Prop)(R:Nat->Value->Prop)(b:Tmp->Value):AV->Value->Prop
 |.maybe g a v,u=>b g=.bool a->aK P w F R v u
 |v,u=>aK P w F R v u
def qK(P:Program)(w:World)(F:Nat->Prop)(R:Nat->Value->Prop)(b:Tmp->Value):List AV->List Value->Prop
 |[],[]=>True
 |a::r,v::s=>kp P w F R b a v/\qK P w F R b r s
 |_,_=>False
def kp.plain{b:Tmp->Value}{x:AV}(h:kp P w F R b x v)(a:iL x=Z):aK P w F R x v:=by cases x<;>first|exact h|simp[iL]at a
def qK.plain{d:Tmp->Value}:{b:List AV} -> {c:List Value}->qK P w F R d b c->b.all iL=Z->bI P w F R b c
 |[],[],_,_=>trivial
 |x::r,v::s,h,a=>by simp only[uek,udc]at a;exact⟨h.1.plain a.1,qK.plain h.2 a.2⟩
 |[],_::_,h,_=>h.elim
 |_::_,[],h,_=>h.elim
def qao{c x:AC}{u:List (Nat×Ob)}(hd:m d=none)(h:oO m c=some (x,u))(M:aX):aB M u d=M d:=by
 unfold oO at h;split at h;rename_i id;split at h<;>try trivial
 rename_i hid;split at h<;>try trivial
 obtain⟨_,rfl⟩:=h;exact gL _ _ (λe=>by subst e;rw[hd]at hid;cases hid);simp at h;obtain⟨_,rfl⟩:=h;rfl;simp at h;obtain⟨_,rfl⟩:=h;rfl
def qap(a:m d=V):{cs xs:List AC} -> {u:List (Nat×Ob)}->lB m cs=U (xs,u)->∀ M:aX,aB M u d=M d
 |[],xs,u,h,M=>by obtain⟨_,rfl⟩:=h;rfl
 |c::r,xs,u,h,M=>by simp only[lB]at h;split at h;rename_i b e;obtain⟨_,rfl⟩:=h;rw[iP,qap a e,qao a b];cases h
def zlx{x y:AV}{u:List (Nat×Ob)}(b:m d=V)(h:sj m x=U (y,u))(M:aX):aB M u d=M d:=by
 unfold sj at h;split at h<;>try trivial
 split at h<;>try trivial
 rename_i a;obtain⟨_,rfl⟩:=h;exact qao b a M;split at h<;>try trivial
 rename_i a;obtain⟨_,rfl⟩:=h;exact qap b a M
def qan(a:m d=V):{cs xs:List AV} -> {u:List (Nat×Ob)}->fe m cs=U (xs,u)->∀ M:aX,aB M u d=M d
 |[],xs,u,h,M=>by obtain⟨_,rfl⟩:=h;rfl
 |c::r,xs,u,h,M=>by simp only[fe]at h;split at h;rename_i b e;obtain⟨_,rfl⟩:=h;rw[iP,qan a e,zlx a b];cases h
def zcu{c:AC}{e:Ty}{l:List e.q}(h:NC c=U ⟨e,l⟩)(a:bx P w F R c v):∃ A b,v=.slice A l.length b/\aG w F (.sl e) l (λ_ u=>u=v):=by
 unfold NC at h;split at h<;>try trivial
 cases h;obtain⟨A,c,d,_⟩:=id a;exact⟨A,c,d.symm,a⟩;cases h;obtain⟨A,d,a⟩:=a;exact⟨A,_,d,a⟩
def Ot{x:Option Operand}{l:Option Int}{r d:List AV}{e:List Value}(h:y9 x.isSome r=U (l,d))(c:bI P w F R r (x.toList.map a.eval++e)):
  (∃ k:IntKind,x.map a.eval=l.map (.int k))/\bI P w F R d e:=by
 rcases zh9 h c with ⟨b,rfl,rfl⟩|⟨b,k,n,v,m,rfl,f,g,i⟩
 cases x with
 |none=>exact⟨⟨.i64,rfl⟩,by simpa using c⟩
 |some x=>simp at b
 cases x with
 |none=>simp at b
 |some x=>obtain⟨rfl,rfl⟩:=f;exact⟨⟨k,by simp[g]⟩,i⟩
def qp3{E:Nat->Value}{m M:aX}{lo a mx:Bool}{x:AV}{r:List AV}{e:Eff}(hm:MemOK P B w F E M)(hb:∀ b,F b->b<w.heap.size)(hB:B<=w.heap.size)(O:∀ i y,m i=U y->M i=U y)(hd:m d=V->M d=V)(h:KW P d t lo a mx x r m=U e)(hn:az e.need)(hx:aK P w F (av M E) x vx)(hr:bI P w F (av M E) r vs):
  lo=Y/\a=Z/\mx=Y/\∃ vh u γ',vs=[vh]/\(Instr.sliceAt t vx V (U vh) V).run P w=.ok u w/\Step B w F E M w F γ' (aB M e.wr)/\MemOK P B w F γ' (aB M e.wr)/\aK P w F (av (aB M e.wr) γ') e.v u:=by
 unfold KW at h;split at h<;>try trivial
 rename_i id k q;split at h<;>try trivial
 rename_i el T o l ht hid hmd;split at h<;>try trivial
 rename_i W;cases h;obtain⟨n1,n2⟩:0<=q/\q<=l.length:=hn;obtain⟨f,W⟩:=W;obtain⟨ti,Q⟩:=uar.1 W.1;cases vs with
 |nil=>exact hr.elim
 |cons vh vs=>
  cases vs with
  |cons _ _=>exact hr.2.elim
  |nil=>
   obtain⟨⟨_,rfl,_⟩,_⟩:=hr;have R:=O _ _ hid;have G:=hd hmd;have hv:=fV R (by simp) hx.2;subst hv;obtain⟨xs,q1,q2,q3,q4⟩:=iT.of (hm.ob id _ R) f;have p:(l.take q.toNat).length=q.toNat:=by simp;omega
   have A:=q1.1;have hle:q.toNat*o.size<=l.length*o.size:=ube _ (by omega);have C:cy w F o (l.take q.toNat) (xs.take (q.toNat*o.size)):=λi y a=>by
    have hi':l[i]?= U y:=by rw[ub2]at a;split at a;exact a;cases a
    have hiq:i<q.toNat:=by rw[ub2]at a;split at a;assumption;cases a
    refine(q3 i y hi').mono (λ_ h=>h) (λ_ _=>rfl) (λj u hj hu=>?_);have:i*o.size+j<q.toNat*o.size:=by have:(i+1)*o.size<=q.toNat*o.size:=ube _ hiq;rw[ufd]at this;omega
    rw[ub2,ufw this];exact hu
   refine⟨rfl,rfl,rfl,.int k q,?_⟩;rcases q1.2 with ⟨L,hz⟩|⟨g,c,S,N,hg,H,hcap,K,hsz,D⟩
   have z:q.toNat=0:=by omega
   have n:(Instr.sliceAt t (E id) V (U (.int k q)) V).run P w=.ok (.slice V 0 0) w:=by
    rw[L];have s:(Instr.sliceBounds Z 0 0 V (U (.int k q)) V).run P w=.ok (0,0,0) w:=by simp[Instr.sliceBounds,nt (y:=0) n1 (by omega),z]
    simp[Instr.sliceAt,Instr.slice,ud6 ht,s,jj Q]
   obtain⟨s1,s2⟩:=GM hm hb hB R G (ub8 _ _) (by rw[p,z];exact ucs w B T o.size) (.inr (.inr rfl))
    (λi y a=>by rw[z]at a;simp at a) f f
   exact⟨_,_,rfl,n,s1,s2,o7 rfl⟩;have n:(Instr.sliceAt t (E id) V (U (.int k q)) V).run P w=.ok (.slice (U ⟨g,0,V⟩) q.toNat c) w:=by
    rw[N];have s:(Instr.sliceBounds Z l.length c V (U (.int k q)) V).run P w=.ok (0,q.toNat,c) w:=by simp[Instr.sliceBounds,nt (y:=c) n1 (by omega)]
    simp only[Instr.sliceAt,Instr.slice,ud6 ht,s,jj Q,uet,Result.andThen];simp[Addr.add]
   obtain⟨s1,s2⟩:=GM hm hb hB R G (ub8 _ _)
    (by rw[p];refine⟨by rw[uc5,A];omega,.inr ⟨g,c,S,rfl,hg,H,by omega,K,hsz,?_⟩⟩;rw[<- D,ud9];congr 1;omega)
    (.inl (by rw[N];rfl)) C f f
   exact⟨_,_,rfl,n,s1,s2,o7 rfl⟩
def XB:{vs:List AV} -> {b:List AC} -> {u:List (Nat×Ob)} -> {e:List Value}->ox vs=U (b,u)->bI P w F R vs e->u=[]/\bI P w F R (b.map .c) e
 |[],_,_,e,h,d=>by obtain⟨rfl,rfl⟩:=h;exact⟨rfl,d⟩
 |.c a::r,b,u,[],h,d=>d.elim
 |.c a::r,b,u,v::e,h,d=>by
  simp only[ox]at h;split at h<;>try trivial
  rename_i y _ f;cases h;exact⟨rfl,d.1,(XB f d.2).2⟩
 |.dead::_,_,_,_,h,_=>by simp[ox]at h
 |.agg _::_,_,_,_,h,_=>by simp[ox]at h
 |.tup _::_,_,_,_,h,_=>by simp[ox]at h
 |.optr _ _ _ _::_,_,_,_,h,_=>by simp[ox]at h
 |.aptr _ _ _::_,_,_,_,h,_=>by simp[ox]at h
 |.maybe _ _ _::_,_,_,_,h,_=>by simp[ox]at h
def qbm{a:Ty}:(n:Nat) -> {cs:List AC} -> {l:List a.q} -> {g:Nat->Value->Prop}->vF.splitN a n cs=U l->aS P w F R cs g ->
  l.length=n/\∀ (i:Nat) (x:a.q),l[i]?= U x->aG w F a x (λj u=>g (i*a.size+j) u)
 |0,cs,l,g,h,_=>by
  cases cs with
  |nil=>simp only[vF.splitN,ucl]at h;subst h;exact⟨rfl,λi x b=>by simp at b⟩
  |cons _ _=>simp[vF.splitN]at h
 |n+1,cs,l,g,h,d=>by
  simp only[vF.splitN]at h;split at h<;>try trivial
  rename_i x b;split at h<;>try trivial
  rename_i o m;cases h;obtain⟨f,k⟩:=qbm n m (d.drop_ a.size);refine⟨by simp[f],λi y c=>?_⟩;cases i with
  |zero=>simp at c;subst c;have:=(aG.dec a b (d.take_ a.size)).1;simpa using this
  |succ i=>
   have:=k i y (by simpa using c);have e:∀ j,a.size+(i*a.size+j)=(i+1)*a.size+j:=λj=>by rw[ufd];omega
   simpa only[e]using this
def zn5{x:AV}{e:Eff}(z:MemOK P B w F γ M)(L:∀ b,F b->b<w.heap.size)(c:∀ i y,m i=U y->M i=U y)(h:vF P t x m=U e)(Q:aK P w F (av M γ) x v):
  ∃ u F',(Instr.sliceAt t v V V V).run P w=.ok u w/\Step B w F γ M w F' γ (aB M e.wr)/\MemOK P B w F' γ (aB M e.wr)/\aK P w F' (av (aB M e.wr) γ) e.v u:=by
 unfold vF at h;split at h<;>try trivial
 rename_i n el id a R;split at h<;>try trivial
 rename_i i tt bt cs N S d;split at h<;>try trivial
 rename_i E p;split at h<;>try trivial
 rename_i bz g;split at h<;>try trivial
 rename_i l O;split at h<;>try trivial
 rename_i hc;cases h;obtain⟨C,b,H,K,s1,m1,r1⟩:=V3 z L c d p d;obtain⟨f,D,A,W,q3,_,_,_,_⟩:=nM z (c _ _ d) Q.2;have o:f=b:=by rw[H]at A;cases A;rfl
 subst o;subst W;obtain⟨s,G⟩:=qbm n O (xL g r1).2;have r:=jj (w:=w) N;refine⟨.slice (U ⟨f,a,V⟩) n n,C,?_,s1,m1,rfl,?_⟩;simp only[Instr.sliceAt,uet,ud6 R,ucm,Instr.sureAddr,uev,Instr.sliceBounds,r,Nat.zero_mul];have:(⟨f,a,V⟩:Addr).add 0=⟨f,a,V⟩:=by simp[Addr.add]
 simp[this];refine⟨U ⟨f,a,V⟩,n,by rw[s],by rw[s];exact ufb _,by unfold maxLen;omega,λk x hx=>⟨⟨f,a,V⟩,rfl,K,?_⟩⟩;have:=G k x hx;refine this.mono (λ_ h=>h) (λ_ _=>rfl) λj u _ T=>?_;rw[kq];exact T
def Ml{n:Int}:(arr:List MapEntry)->(es:List (Int×Nat))->(i:Nat)->arr.map (λe=>(e.key,e.val))=es.map (λx=>(Value.int .i64 x.1,Value.func (.func x.2) #[] #[])) ->
  ∃ j,Instr.findNow (.int .i64) (.int .i64 n) arr i=U ((es.find? (λx=>x.1==n)).map λx=>(j,Value.func (.func x.2) #[] #[]))
 |[],[],_,_=>⟨0,rfl⟩
 |[],_::_,_,h=>by simp at h
 |_::_,[],_,h=>by simp at h
 |e::arr,(k,f)::es,i,h=>by
  simp at h;obtain⟨⟨d,g⟩,l⟩:=h;simp only[Instr.findNow,d,Instr.sameNow];by_cases a:n=k;subst a;exact⟨i,by simp[g]⟩;obtain⟨j,m⟩:=Ml (n:=n) arr es (i+1) l;refine⟨j,?_⟩;have b:(n==k)=false:=by rw[ubw];exact a
  have c:(k==n)=false:=by rw[ubw];omega
  simp[b,c,m]
def zcy{g i:TypeId}{arr:Array MapEntry}{h r:Nat}{a:List (Int×Nat)}(l:P.underlying t=U (.map g i))(f:P.underlying g=U (.int .i64))(p:(zeroValue i).run P w=.ok .nilFunc w)(o:w.heap[r]?= U (.map arr h))(m:arr.toList.map (λe=>(e.key,e.val))=a.map (λx=>(Value.int .i64 x.1,Value.func (.func x.2) #[] #[])))(n:Int):
  (Instr.lookup t (.map (U r)) (.int .i64 n) Z).run P w=.ok (.tuple #[jS (a.find? (λx=>x.1==n)),.bool (a.find? (λx=>x.1==n)).isSome]) w:=by
 obtain⟨j,d⟩:=Ml arr.toList a 0 m;have b:(Instr.checkKey arr.isEmpty 10000 g (.int .i64 n)).run P w=.ok () w:=Fc f arr.isEmpty 9999 n;have c:(getObj r).run P w=.ok (.map arr h) w:=by simp[getObj,Sem.run,o]
 cases k:a.find? (λx=>x.1==n)with
 |none=>rw[k]at d;simp[Instr.lookup,ud6 l,c,b,Instr.findKey,ud6 f,d,p,jS]
 |some x=>rw[k]at d;simp[Instr.lookup,ud6 l,c,b,Instr.findKey,ud6 f,d,jS]
def qpe(hΓ:io P Γ){op:Op}{vs:List AV}{e:Eff}(ho:o.op=op)(hm:MemOK P B w F γ M)(hb:∀ b,F b->b<w.heap.size)(hB:B<=w.heap.size)(hsub:∀ i y,m i=some y->M i=some y)(hd:m d=none->M d=none)(hc:KQ P Γ d op vs m=some e)(hn:az e.need)(hr:bI P w F (av M γ) vs (op.operands.toList.map a.eval)):wz P B o a w F γ M e.v e.wr:=by
 unfold KQ at hc;split at hc
 ·
  rename_i x0 x;cases hc;exact eo hm hb (by unfold execOp;rw[ho];rfl) hr.1
 ·
  rename_i x0 x;cases hc;exact eo hm hb (by unfold execOp;rw[ho];rfl) hr.1
 ·
  rename_i el;split at hc<;>try trivial
  rename_i z hz hmd;split at hc<;>try trivial
  rename_i cs hcs;cases hc;obtain⟨z1,z2,_⟩:=rf hcs (wC (P:=P) (w:=w) (F:=F) (R:=av M γ) z);obtain⟨s1,s2⟩:=Yn (ty:=el) hm hb hB (hd hmd) z1 z2;have hzv:(zeroValue el).run P w=.ok z w:=by
   cases hi:P.info? el with
   |none=>simp[hi]at hz
   |some i=>simp[hi]at hz;simp[zeroValue,typeInfo,hi,hz]
  refine jW (dn (S:=Instr.alloc el true (.tuple #[])) (u:=.pointer (some ⟨w.heap.size,0,none⟩)) (w':=w.alloc (.cells z.cells el)) (by unfold execOp;rw[ho]) ?_) s1 s2 Z5;simp[Instr.alloc,hzv,newVar,newRow,newObj,Sem.run]
 ·
  rename_i el x0 x;split at hc<;>try trivial
  rename_i cs hcs hmd;cases hc;obtain⟨z1,z2,_⟩:=rf hcs hr.1;obtain⟨s1,s2⟩:=Yn (ty:=el) hm hb hB (hd hmd) z1 z2;refine jW (dn (S:=Instr.box el (a.eval x0)) (u:=.pointer (some ⟨w.heap.size,0,none⟩)) (w':=w.alloc (.cells (a.eval x0).cells el)) (by unfold execOp;rw[ho]) ?_) s1 s2 Z5;simp[Instr.box,newVar,newRow,newObj,Sem.run]
 ·
  rename_i xs t ps;split at hc<;>try trivial
  rename_i v hv;cases hc;have hops:(Op.build t ps).operands.toList.map a.eval=ps.toList.map (λp=>a.eval p.2):=by simp[Op.operands]
  rw[hops]at hr;have hz:=qed (idx:=ps.toList.map (·.1)) hr;have he:((ps.toList.map (·.1)).zip (ps.toList.map λp=>a.eval p.2))=ps.toList.map λp=>(p.1,a.eval p.2):=by
   rw[List.zip_map']
  rw[he]at hz;have hlen:=hr.length;obtain⟨u,h1,h2⟩:=qmd (ps:=ps.map λp=>(p.1,a.eval p.2)) hv (by simp at hlen |-;omega) (λk i x v h1 h2=>hz k i x v h1 (by simpa using h2));refine eo hm hb (dn (S:=Instr.build t (ps.map λp=>(p.1,a.eval p.2))) ?_ h1) h2;unfold execOp;rw[ho]
 ·
  rename_i xs t n ps;split at hc<;>try trivial
  rename_i el ht hmd;split at hc<;>try trivial
  rename_i i tt xs' u hi htt hrs;split at hc<;>try trivial
  rename_i hcond;obtain⟨hlt,c1,c2,c3,c4,c5⟩:=hcond;obtain⟨z,hz,hzs⟩:∃ z,i.zero=some z/\z.cells.size=tt.size:=by
   cases hz:i.zero with
   |none=>simp[hz]at c5
   |some z=>exact⟨z,rfl,by simpa[hz]using c5⟩
  split at hc<;>try trivial
  rename_i l hl;split at hc<;>try trivial
  rename_i hln;cases hc;have hops:(Op.buildSlice t n ps).operands.toList.map a.eval=ps.toList.map (λp=>a.eval p.2):=by simp[Op.operands]
  rw[hops]at hr;obtain⟨F1,s1,m1,t1,r1⟩:=ke hm hb (dM.of hsub) hrs hr;have hz':=qed (idx:=ps.toList.map (·.1)) r1;have he:((ps.toList.map (·.1)).zip (ps.toList.map λp=>a.eval p.2))=ps.toList.map λp=>(p.1,a.eval p.2):=by
   rw[List.zip_map']
  rw[he]at hz';have hlen:=r1.length;have hMd:aB M u d=none:=by rw[qan hmd hrs];exact hd hmd
  obtain⟨v,w',γ',h1,s2,m2,r2⟩:=qmb (ps:=ps.map λp=>(p.1,a.eval p.2)) m1 s1.bd hB hMd ht hi hz c1 hzs c2 c3 hl hln (by simp at hlen |-;omega) (λk i x v h1 h2=>hz' k i x v h1 (by simpa using h2)) hlt;refine jW (dn (S:=Instr.buildSlice t n (ps.map λp=>(p.1,a.eval p.2))) (w':=w') ?_ h1) (F':=F1) (γ':=γ') ?_ ?_ ?_
  ·unfold execOp;rw[ho]
  ·rw[iP];exact s1.trans s2
  ·rw[iP];exact m2
  ·rw[iP];exact r2
 ·
  rename_i t x0 x;obtain⟨h1,u,h2,h3⟩:=XF hm hsub hc hn hr.1;rw[h1];exact eo hm hb (dn (S:=Instr.loadAt t (a.eval x0)) (by unfold execOp;rw[ho]) h2) h3
 ·
  rename_i t x0 v0 x v;obtain⟨h1,w',F1,h2,h3,h4⟩:=zoy hm hb hsub hc hn hr.1 hr.2.1;rw[h1];intro K Q hK;unfold Oper.wp;have:(execOp a.eval o).run P w=.ok .skip w':=by
   unfold execOp;rw[ho];simp[h2]
  rw[this];exact hK undef w' F1 γ h3 h4 trivial
 ·
  rename_i x0 x;split at hc<;>try trivial
  ·rename_i id off;cases hc;obtain⟨⟨h1,b,h2,h3⟩,_⟩:=hr;refine eo hm hb (u:=a.eval x0) ?_ ⟨h1,b,h2,h3⟩;unfold execOp;rw[ho];simp only[h3];rfl
  ·rename_i cs;cases hc;obtain⟨⟨h1,ad,h2,h3⟩,_⟩:=hr;refine eo hm hb (u:=a.eval x0) ?_ ⟨h1,ad,h2,h3⟩;unfold execOp;rw[ho];simp only[h2];rfl
 ·
  rename_i bo t x0 y0 yt x y;split at hc
  ·rename_i v hv;cases hc;have key:BS P t=true->∀ es (t0:Ty) (z:Int×t0.q) (vx:Value),bx P w F (av M γ) (.ic es t0 z) vx->∀ q:BinOp,q=.eql\/q=.neq->(do eqGuard q t x0 (.const .nilIface) vx .nilIface;binOp q t vx .nilIface:Sem Value).run P w=.ok (.bool (if q=.eql then (dd es z.1).isNone else !(dd es z.1).isNone)) w:=λhu es t0 z vx hx q hq=>by
    obtain⟨ms,hms⟩:=qzq hu;rcases Gn hx with ⟨ty,u,i1,i2,_⟩|⟨i1,i2⟩
    ·subst i2;have he:(Op.equalIn (9999+1) t (.iface ty u) .nilIface).run P w=.ok false w:=qzr hms;have he2:Op.equal t (.iface ty u) .nilIface=Op.equalIn (9999+1) t (.iface ty u) .nilIface:=rfl;rcases hq with rfl|rfl
     ·have h1:binOp .eql t (.iface ty u) .nilIface=(do pure (.bool (<- Op.equal t (.iface ty u) .nilIface))):=rfl;rw[h1,he2];simp[eqGuard,he,i1]
     ·have h1:binOp .neq t (.iface ty u) .nilIface=(do pure (.bool (!(<- Op.equal t (.iface ty u) .nilIface)))):=rfl;rw[h1,he2];simp[eqGuard,he,i1]
    ·subst i2;have he:(Op.equalIn (9999+1) t .nilIface .nilIface).run P w=.ok true w:=qzs hms;have he2:Op.equal t .nilIface .nilIface=Op.equalIn (9999+1) t .nilIface .nilIface:=rfl;rcases hq with rfl|rfl
     ·have h1:binOp .eql t .nilIface .nilIface=(do pure (.bool (<- Op.equal t .nilIface .nilIface))):=rfl;rw[h1,he2];simp[eqGuard,he,i1]
     ·have h1:binOp .neq t .nilIface .nilIface=(do pure (.bool (!(<- Op.equal t .nilIface .nilIface)))):=rfl;rw[h1,he2];simp[eqGuard,he,i1]
   unfold Yr at hv;split at hv<;>try trivial
   ·rename_i es t0 z;split at hv<;>try trivial
    rename_i hui;cases hv;refine eo hm hb (dn (S:=do eqGuard .eql t x0 (.const .nilIface) (a.eval x0) .nilIface;binOp .eql t (a.eval x0) .nilIface) (by unfold execOp;rw[ho];rfl) (key hui es t0 z _ hr.1.2 .eql (.inl rfl))) ⟨rfl,rfl⟩
   ·rename_i es t0 z;split at hv<;>try trivial
    rename_i hui;cases hv;refine eo hm hb (dn (S:=do eqGuard .neq t x0 (.const .nilIface) (a.eval x0) .nilIface;binOp .neq t (a.eval x0) .nilIface) (by unfold execOp;rw[ho];rfl) (key hui es t0 z _ hr.1.2 .neq (.inr rfl))) ⟨rfl,rfl⟩
  split at hc<;>try trivial
  rename_i c n hcb;cases hc;obtain⟨u,h1,h2,h3⟩:=ql8 hcb hn hr.1 hr.2.1 x0 y0;exact eo hm hb (dn (S:=do eqGuard bo t x0 y0 (a.eval x0) (a.eval y0);binOp bo t (a.eval x0) (a.eval y0)) (by unfold execOp;rw[ho]) h1) ⟨h2,h3⟩
 ·
  rename_i uo t x0 k n;split at hc<;>try trivial
  cases hc;obtain⟨⟨_,h1,h2⟩,_⟩:=hr;refine eo hm hb (dn (S:=Op.unary .neg (a.eval x0)) (u:=.int k (k.wrap (0-n))) (by unfold execOp;rw[ho]) ?_) ⟨rfl,rfl,iQ _ _⟩;rw[h1];simp[Op.unary,Op.intArith]
 ·
  rename_i uo t x0 bb;split at hc<;>try trivial
  cases hc;obtain⟨⟨_,h1⟩,_⟩:=hr;simp only[bx]at h1;refine eo hm hb (dn (S:=Op.unary .not (a.eval x0)) (u:=.bool (!bb)) (by unfold execOp;rw[ho]) ?_) ⟨rfl,rfl⟩;rw[h1];simp[Op.unary]
 ·
  rename_i s t x0 k0 n;split at hc<;>try trivial
  rename_i ds k hs ht;cases hc;obtain⟨⟨_,h1,h2⟩,_⟩:=hr;refine eo hm hb (dn (S:=convert s t (a.eval x0)) (u:=.int k (k.wrap n)) (by unfold execOp;rw[ho]) ?_) ⟨rfl,rfl,iQ _ _⟩;rw[h1];simp[convert,ud6 hs,ud6 ht,Conv.intToInt]
 ·
  rename_i t n0 c0 k n k' c;obtain⟨⟨_,h1,_⟩,⟨_,h2,_⟩,_⟩:=hr;obtain⟨u,w',γ',e1,e2,e3,e4⟩:=zgb (kn:=k) (kc:=k') hm hb hB hd hc hn;refine jW (dn (S:=Instr.makeSlice t (a.eval n0) (a.eval c0)) (by unfold execOp;rw[ho]) ?_) e2 e3 e4;rw[h1,h2];exact e1
 ·
  rename_i t x0 lo hi mx x r;split at hc
  ·rename_i e' hcut;cases hc;have hops:(Op.slice t x0 lo hi mx).operands.toList.map a.eval=a.eval x0::(lo.toList.map a.eval++(hi.toList.map a.eval++(mx.toList.map a.eval++[]))):=by simp[Op.operands]
   rw[hops]at hr;obtain⟨h1,h2,h3,vh,u,γ',h4,h5,h6,h7,h8⟩:=qp3 hm hb hB hsub hd hcut hn hr.1 hr.2;cases lo with
   |some _=>cases h1
   |none=>
    cases mx with
    |some _=>cases h3
    |none=>
     cases hi with
     |none=>cases h2
     |some hh=>
      simp only[Option.toList,List.map_nil,uel,udn,uds,udr,and_true]at h4;refine jW (dn (S:=Instr.sliceAt t (a.eval x0) none (some (a.eval hh)) none) (w':=w) (by unfold execOp;rw[ho];rfl) ?_) h6 h7 h8;rw[h4];exact h5
  split at hc
  ·rename_i e' hsp;cases hc;split at hsp<;>try trivial
   rename_i hno;cases lo with
   |some _=>cases hno.1
   |none=>
    cases hi with
    |some _=>cases hno.2.1
    |none=>
     cases mx with
     |some _=>cases hno.2.2
     |none=>
      obtain⟨u,F1,e1,e2,e3,e4⟩:=zn5 hm hb hsub hsp hr.1;exact jW (dn (S:=Instr.sliceAt t (a.eval x0) none none none) (w':=w) (by unfold execOp;rw[ho];rfl) e1) e2 e3 e4
  split at hc<;>try trivial
  rename_i el x' u l r1 ht hrs hlo;split at hc<;>try trivial
  rename_i h r2 hhi;split at hc<;>try trivial
  rename_i k hmx;split at hc<;>try trivial
  rename_i cc hne;split at hc<;>try trivial
  rename_i tt y hly;split at hc<;>try trivial
  rename_i hcond;obtain⟨ti,hti⟩:=uar.1 hcond.1;split at hc<;>try trivial
  rename_i z n hsl;cases hc;have hops:(Op.slice t x0 lo hi mx).operands.toList.map a.eval=a.eval x0::(lo.toList.map a.eval++(hi.toList.map a.eval++(mx.toList.map a.eval++[]))):=by simp[Op.operands]
  rw[hops]at hr;obtain⟨F1,s1,m1,t1,r1⟩:=qam hm hb (dM.of hsub) hrs hr.1;obtain⟨⟨kl,q1⟩,hr2⟩:=Ot hlo hr.2;obtain⟨⟨kh,q2⟩,hr3⟩:=Ot hhi hr2;obtain⟨⟨kk,q3⟩,hr4⟩:=Ot hmx hr3;obtain⟨A,cap,hv,hrep⟩:=zcu hly r1.2;rw[hv]at hrep;obtain⟨v,e1,e2,e3⟩:=zn4 (P:=P) (w:=w) (F:=F1) (R:=av (aB M u) γ) (kl:=kl) (kh:=kh) (kk:=kk) ht hti hcond.2 hsl hn hrep;refine jW (dn (S:=Instr.sliceAt t (a.eval x0) (lo.map a.eval) (hi.map a.eval) (mx.map a.eval)) (w':=w) (by unfold execOp;rw[ho]) ?_) s1 m1 ⟨e2,e3⟩;rw[hv,q1,q2,q3];exact e1
 ·
  rename_i s x0 f x;split at hc<;>try trivial
  rename_i v hv;cases hc;obtain⟨u,h1,h2⟩:=qv9 hv hr.1;exact eo hm hb (dn (S:=Instr.fieldAt s (a.eval x0) f) (by unfold execOp;rw[ho]) h1) h2
 ·
  rename_i s x0 f cs;split at hc<;>try trivial
  rename_i fd hfd;split at hc<;>try trivial
  rename_i hcond;split at hc<;>try trivial
  rename_i l hl;split at hc<;>try trivial
  rename_i v hv;cases hc;obtain⟨u,h1,h2⟩:=qwa hfd hcond hl hv hr.1;exact eo hm hb (dn (S:=Instr.field s (a.eval x0) f) (by unfold execOp;rw[ho]) h1) h2
 ·
  rename_i t x0 i0 x k i;obtain⟨hx,⟨_,h2,_⟩,_⟩:=hr;obtain⟨h1,u,h3,h4⟩:=qzw (k:=k) hm hsub hc hn hx;rw[h1];refine eo hm hb (dn (S:=Instr.indexAt t (a.eval x0) (a.eval i0)) (by unfold execOp;rw[ho]) ?_) h4;rw[h2];exact h3
 ·
  rename_i t x0 i0 x k i;obtain⟨hx,⟨_,h2,_⟩,_⟩:=hr;obtain⟨h1,u,h3,h4⟩:=qzv (k:=k) hc hn hx;rw[h1];refine eo hm hb (dn (S:=Instr.index t (a.eval x0) (a.eval i0)) (by unfold execOp;rw[ho]) ?_) h4;rw[h2];exact h3
 ·
  rename_i t x0 y0 es n;split at hc<;>try trivial
  rename_i kt et ht;split at hc<;>try trivial
  rename_i hk hz;cases hc;obtain⟨⟨_,hx⟩,⟨_,hy,_⟩,_⟩:=hr;simp only[bx]at hx hy;obtain⟨r,arr,ck,e1,e2,e3,e4⟩:=hx;have hzv:(zeroValue et).run P w=.ok .nilFunc w:=by
   cases hi:P.info? et with
   |none=>simp[hi]at hz
   |some i=>simp[hi]at hz;simp[zeroValue,typeInfo,hi,hz]
  have hrun:=zcy (w:=w) ht hk hzv e3 e4 n;refine eo hm hb (dn (S:=Instr.lookup t (a.eval x0) (a.eval y0) true) (by unfold execOp;rw[ho]) (by rw[e1,hy];exact hrun)) ?_;refine⟨_,rfl,rfl,⟨jS (es.find? (λx=>x.1==n)),by simp,?_,?_⟩,⟨_,rfl,rfl,rfl⟩,uT⟩
  ·cases es.find? (λx=>x.1==n)<;>rfl
  ·simp only[bx]
 ·
  rename_i x0 i xs;split at hc<;>try trivial
  rename_i v hv;cases hc;obtain⟨⟨arr,h1,h2,h3⟩,_⟩:=hr;have hat:∀ (xs:List AV) (g:Nat->Value->Prop) (i:Nat) (v:AV),nG P w F (av M γ) xs g->xs[i]?= some v->∃ u,g i u/\aK P w F (av M γ) v u:=by
   intro xs
   induction xs with
   |nil=>intro g i v _ h;simp at h
   |cons y ys ih=>
    intro g i v h hi;cases i with
    |zero=>simp at hi;subst hi;exact h.1
    |succ i=>exact ih _ i v h.2 (by simpa using hi)
  obtain⟨u,h4,h5⟩:=hat xs _ i v h3 hv;refine eo hm hb (dn (S:=Instr.extract (a.eval x0) i) (by unfold execOp;rw[ho]) ?_) h5;rw[h1];simp[Instr.extract,h4]
 ·
  rename_i x0 xt ty es t x;split at hc<;>try trivial
  rename_i fs hu;split at hc<;>try trivial
  rename_i hz;cases hc;obtain⟨z,hzv⟩:∃ z,(zeroValue ty).run P w=.ok z w:=by
   cases hi:P.info? ty with
   |none=>simp[hi]at hz
   |some i=>
    cases hz2:i.zero with
    |none=>simp[hi,hz2]at hz
    |some z=>exact⟨z,by simp[zeroValue,typeInfo,hi,hz2]⟩
  have hx:=hr.1.2;rcases Gn hx with ⟨ty',u,i1,i2,_⟩|⟨i1,i2⟩
  ·by_cases he:ty'=ty
   ·subst he;refine eo hm hb (dn (S:=Instr.typeAssert (a.eval x0) xt ty' true) (u:=.tuple #[u,.bool true]) (by unfold execOp;rw[ho]) ?_) ?_
    ·rw[i2];simp[Instr.typeAssert,ud6 hu]
    ·refine⟨_,rfl,rfl,⟨u,rfl,uT⟩,⟨_,rfl,rfl,?_⟩,uT⟩;simp[bx,i1]
   ·refine eo hm hb (dn (S:=Instr.typeAssert (a.eval x0) xt ty true) (u:=.tuple #[z,.bool false]) (by unfold execOp;rw[ho]) ?_) ?_
    ·rw[i2];simp[Instr.typeAssert,ud6 hu,he,hzv]
    ·refine⟨_,rfl,rfl,⟨z,rfl,uT⟩,⟨_,rfl,rfl,?_⟩,uT⟩;simp[bx,i1,he]
  ·refine eo hm hb (dn (S:=Instr.typeAssert (a.eval x0) xt ty true) (u:=.tuple #[z,.bool false]) (by unfold execOp;rw[ho]) ?_) ?_
   ·rw[i2];simp[Instr.typeAssert,ud6 hu,hzv]
   ·refine⟨_,rfl,rfl,⟨z,rfl,uT⟩,⟨_,rfl,rfl,?_⟩,uT⟩;simp[bx,i1]
 ·
  rename_i xs f first cap
  split at hc<;>try trivial
  rename_i hf;split at hc<;>try trivial
  rename_i caps u hk;cases hc;have hfirst:first = #[]:=Array.eq_empty_of_size_eq_zero hf
  subst hfirst;have hops:(Op.makeFunc (.func f) #[] cap).operands.toList.map a.eval=(cap.map a.eval).toList:=by simp[Op.operands]
  rw[hops]at hr;obtain⟨F1,s1,m1,r1⟩:∃ F1,Step B w F γ M w F1 γ (aB M u)/\MemOK P B w F1 γ (aB M u)/\bI P w F1 (av (aB M u) γ) (caps.map .c) (cap.map a.eval).toList:=by
   split at hk
   ·exact H7 hm hb hsub hk hr
   ·obtain⟨rfl,h2⟩:=XB hk hr;exact⟨F,Step.refl hb,hm,h2⟩
  obtain⟨l1,l2⟩:=qnr r1;refine jW (dn (S:=Instr.makeFunc (.func f) ((#[]:Array Operand).map a.eval) (cap.map a.eval)) (u:=.func (.func f) #[] (cap.map a.eval)) (w':=w) (by unfold execOp;rw[ho]) ?_) s1 m1 ?_
  ·simp[Instr.makeFunc]
  ·exact⟨rfl,cap.map a.eval,rfl,by simpa using l1,by simpa using l2⟩
 ·
  rename_i xs bb cargs ts;have hops:(Op.call ⟨.builtin bb,cargs,ts⟩).operands.toList.map a.eval=(cargs.map a.eval).toList:=by simp[Op.operands,Call.operands]
  rw[hops]at hr;have hex:∀ (S:Sem Value) (u:Value) (w':World),(∀ (ty:TypeId) (cs:Array Bool),builtin bb ts ty cs (cargs.map a.eval)=(do pure (.value (<- S)):Sem Next))->S.run P w=.ok u w'->(execOp a.eval o).run P w=.ok (.value u) w':=by
   intro S u w' h1 h2;unfold execOp;rw[ho];simp[resolve,invoke,h1,h2]
  unfold Ta at hc;split at hc<;>try trivial
  ·rename_i t x hts;have hargs:∃ v,cargs.map a.eval = #[v]/\aK P w F (av M γ) x v:=by
    cases hl:(cargs.map a.eval).toList with
    |nil=>rw[hl]at hr;exact hr.elim
    |cons v r=>cases r with
     |nil=>rw[hl]at hr;exact⟨v,by rw[<- uc7,hl],hr.1⟩
     |cons _ _=>rw[hl]at hr;exact hr.2.elim
   obtain⟨v,hv,hx⟩:=hargs;have hts':ts = #[t]:=by rw[<- uc7,hts]
   obtain⟨h1,u,h2,h3⟩:=zcs hm hsub hc hx o.type;rw[h1];refine eo hm hb (hex (Builtin.len_ #[t] 0 #[v]) u w (λty cs=>?_) ?_) h3
   ·rw[hv,hts'];rfl
   ·exact h2
  ·rename_i t t' s x hts;split at hc<;>try trivial
   rename_i htt;subst htt;have hargs:∃ v1 v2,cargs.map a.eval = #[v1,v2]/\aK P w F (av M γ) s v1/\aK P w F (av M γ) x v2:=by
    cases hl:(cargs.map a.eval).toList with
    |nil=>rw[hl]at hr;exact hr.elim
    |cons v r=>cases r with
     |nil=>rw[hl]at hr;exact hr.2.elim
     |cons v2 r=>cases r with
      |nil=>rw[hl]at hr;exact⟨v,v2,by rw[<- uc7,hl],hr.1,hr.2.1⟩
      |cons _ _=>rw[hl]at hr;exact hr.2.2.elim
   obtain⟨v1,v2,hv,hs,hx⟩:=hargs;have hts':ts = #[t,t]:=by rw[<- uc7,hts]
   obtain⟨u,w',γ',h2,h3,h4,h5⟩:=qlg (ty:=0) hm hb hB hsub hd hc hn hs hx;refine jW (hex (Builtin.append_ #[t,t] 0 #[v1,v2]) u w' (λty cs=>?_) h2) h3 h4 h5;rw[hv,hts'];rfl
  ·rename_i k n r;split at hc<;>try trivial
   rename_i y hy;cases hc;cases hl:(cargs.map a.eval).toList with
   |nil=>rw[hl]at hr;exact hr.elim
   |cons v r0=>
    rw[hl]at hr;obtain⟨⟨_,rfl,hk⟩,hr⟩:=hr;obtain⟨h1,h2⟩:=Yf hy hk hr;refine eo hm hb (hex (Builtin.min_ ts 0 (cargs.map a.eval)) (.int k y) w (λty cs=>rfl) ?_) ⟨rfl,rfl,h2⟩;simp only[Builtin.min_,hl];exact h1
  ·rename_i k n r;split at hc<;>try trivial
   rename_i y hy;cases hc;cases hl:(cargs.map a.eval).toList with
   |nil=>rw[hl]at hr;exact hr.elim
   |cons v r0=>
    rw[hl]at hr;obtain⟨⟨_,rfl,hk⟩,hr⟩:=hr;obtain⟨h1,h2⟩:=XZ hy hk hr;refine eo hm hb (hex (Builtin.max_ ts 0 (cargs.map a.eval)) (.int k y) w (λty cs=>rfl) ?_) ⟨rfl,rfl,h2⟩;simp only[Builtin.max_,hl];exact h1
 ·
  rename_i recv name cargs ts es t x args;split at hc<;>try trivial
  rename_i args' u fs hrs hfs;split at hc<;>try trivial
  rename_i rs y n hv;cases hc;have hops:(Op.call ⟨.invoke recv name,cargs,ts⟩).operands.toList.map a.eval=a.eval recv::(cargs.map a.eval).toList:=by simp[Op.operands,Call.operands]
  rw[hops]at hr;obtain⟨F1,s1,m1,t1,r1⟩:=ke hm hb (dM.of hsub) hrs hr.2;have hx:=hr.1.2;rcases Gn hx with ⟨ty,v0,i1,i2,i3⟩|⟨i1,i2⟩
  ·have hrx:aK P w F1 (av (aB M u) γ) (eR t x.2) v0:=iH (i3.mono s1.hF (λ_ _=>rfl));obtain⟨f,e1,e2,e3⟩:=K5 hΓ (k:=x.1) s1.bd (vs:=v0::(cargs.map a.eval).toList) (args:=eR t x.2::args') ⟨hrx,r1⟩ hv hn;obtain⟨p,hp,hpf⟩:∃ p,fs.find? (λx'=>x'.1==x.1)=some p/\p.2=f:=by
    cases hq:fs.find? (λx'=>x'.1==x.1)with
    |none=>rw[hq]at e1;simp[jS]at e1
    |some p=>rw[hq]at e1;simp[jS]at e1;exact⟨p,rfl,e1⟩
   subst hpf;obtain⟨ty',j1,j2⟩:=Nj hfs hp;rw[i1]at j1;cases j1;intro K Q hK;unfold Oper.wp;have q1:(#[Value.iface ty v0]++Array.map a.eval cargs)[0]?= some (.iface ty v0):=by simp[Array.getElem?_append]
   have q2:(Array.map a.eval cargs).extract 0 cargs.size=Array.map a.eval cargs:=by
    have:cargs.size=(Array.map a.eval cargs).size:=by simp
    rw[this];exact Array.extract_size
   have hrun:(execOp a.eval o).run P w=.ok (.enter p.2 (#[v0]++cargs.map a.eval)) w:=by
    unfold execOp;rw[ho];simp only[resolve,uet,uev,ucm,invoke,i2];rw[q1];have q3:(#[Value.iface ty v0]++Array.map a.eval cargs).extract 1 (#[Value.iface ty v0]++Array.map a.eval cargs).size=Array.map a.eval cargs:=by simp[q2]
    simp only[q3];rw[zl3 j2,e2]
   rw[hrun];show Calls P p.2 (#[v0]++cargs.map a.eval) w _;have fU:(v0::(cargs.map a.eval).toList).toArray = #[v0]++cargs.map a.eval:=by simp
   rw[fU]at e3;refine e3.mono λen w2 hp=>?_;obtain⟨v2,F2,rfl,hbel,hF2,hF2',hrep⟩:=hp;obtain⟨s2,m2⟩:=Step.below m1 hB s1.bd hbel hF2 hF2';exact hK v2 w2 F2 γ (s1.trans s2) m2 (xq hrep)
  ·obtain⟨p,hp⟩:=Tb hv hn;obtain⟨ty',j1,_⟩:=Nj hfs hp;rw[i1]at j1;cases j1
 ·
  rename_i f0 cargs ts es n id args;split at hc<;>try trivial
  rename_i ety cs hid;split at hc<;>try trivial
  rename_i T z ns hu;cases hc;have hops:(Op.call ⟨.value f0,cargs,ts⟩).operands.toList.map a.eval=a.eval f0::(cargs.map a.eval).toList:=by simp[Op.operands,Call.operands]
  rw[hops]at hr
  match hca:(cargs.map a.eval).toList,hr with
  |[],hr=>exact hr.2.elim
  |vp::vs,⟨⟨_,hf⟩,⟨_,hp⟩,hvs⟩=>
   have hf:a.eval f0=jS (es.find? (λx=>x.1==n)):=hf;obtain⟨b,arr,q1,rfl,q3,q4,q5,q6,q7⟩:=nM hm (hsub _ _ hid) hp;have hone:∀ u∈arr,u.oneCell'=true:=λu hu=>by
    obtain⟨j,hj,rfl⟩:=Array.getElem_of_mem hu;obtain⟨u',z1,z2,_⟩:=q7.at_ (j:=j) (c:=cs[j]'(by omega)) (uaq _);rw[uam hj]at z1;cases z1;exact z2
   obtain⟨hl,f,e1,e2,e3⟩:=qdn hΓ q3 q6 hone q7 hvs hu hn;intro K Q hK;unfold Oper.wp;have hrun:(execOp a.eval o).run P w=.ok (.enter f (cargs.map a.eval)) w:=by
    unfold execOp;rw[ho];simp[resolve,hf,e1,Deferred.ofValue,invoke,e2]
   rw[hrun];show Calls P f (cargs.map a.eval) w _;have fU:(Value.pointer (some ⟨b,0,none⟩)::vs).toArray=cargs.map a.eval:=by rw[<- hca]
   rw[fU]at e3;refine e3.mono λen w2 hp2=>?_;obtain⟨u,nv,rfl,r1,rfl,r2⟩:=hp2;have hrep:aS P w F (av M γ) (enc T z) (λj u=>(dg arr 0 nv)[j]?= some u):=by
    refine(aG.enc T z r2).turn λj u hj hu=>?_;rw[gV]at hj;have:=Cr (arr:=arr) (off:=0) (vs:=nv) (j:=j) (by omega) (by omega);rw[uey]at this;rw[this];exact hu
   obtain⟨s1,m1⟩:=so hm hb (hsub _ _ hid) q1 q3 q4 q5 (by omega) (by rw[gV];omega) hrep;have hov:dg arr 0 nv=nv.toArray:=by
    have:nv.length=arr.size:=by omega
    simp[dg,this]
   rw[hov]at s1 m1;exact hK u _ F γ s1 m1 trivial
 ·
  rename_i f0 cargs ts fv args _;split at hc
  ·rename_i rw0 hrow;have hops:(Op.call ⟨.value f0,cargs,ts⟩).operands.toList.map a.eval=a.eval f0::(cargs.map a.eval).toList:=by simp[Op.operands,Call.operands]
   rw[hops]at hr;unfold qaf at hrow;split at hrow<;>try trivial
   rename_i f1 _;obtain⟨_,arr,e1,e2,_⟩:=hr.1;have e3:arr = #[]:=Array.eq_empty_of_size_eq_zero e2;subst e3;obtain⟨hen,hcalls⟩:=zlu (hΓ.2 _ _ hrow) hm hb hB hsub hd hc hn hr.2;intro K Q hK;unfold Oper.wp;have hrun:(execOp a.eval o).run P w=.ok (.enter f1 (cargs.map a.eval)) w:=by
    unfold execOp;rw[ho];simp[resolve,e1,Deferred.ofValue,invoke,hen]
   rw[hrun];show Calls P f1 (cargs.map a.eval) w _;rw[ubf]at hcalls;refine hcalls.mono λen w2 hp=>?_;obtain⟨u,γ',rfl,s1,m1,r1⟩:=hp;exact hK u w2 F γ' s1 m1 r1
  split at hc<;>try trivial
  rename_i args' u hrs;split at hc<;>try trivial
  rename_i v n hv;cases hc;have hops:(Op.call ⟨.value f0,cargs,ts⟩).operands.toList.map a.eval=a.eval f0::(cargs.map a.eval).toList:=by simp[Op.operands,Call.operands]
  rw[hops]at hr;obtain⟨F1,s1,m1,t1,r1⟩:=ke hm hb (dM.of hsub) hrs hr.2;obtain⟨f,caps,e1,e2,rs,y,e3,e4⟩:=qnq hΓ hv hn s1.bd (s1.repA hr.1) r1;intro K Q hK;unfold Oper.wp;have hrun:(execOp a.eval o).run P w=.ok (.enter f (cargs.map a.eval++caps)) w:=by
   unfold execOp;rw[ho];simp[resolve,e1,Deferred.ofValue,invoke,e2]
  rw[hrun];show Calls P f (cargs.map a.eval++caps) w _;rw[ubf]at e4;refine e4.mono λe w2 hp=>?_;obtain⟨v2,F2,rfl,hbel,hF2,hF2',hrep⟩:=hp;obtain⟨s2,m2⟩:=Step.below m1 hB s1.bd hbel hF2 hF2';exact hK v2 w2 F2 γ (s1.trans s2) m2 (by rw[e3];exact xq hrep)
 ·cases hc
end
end Go.Ab
