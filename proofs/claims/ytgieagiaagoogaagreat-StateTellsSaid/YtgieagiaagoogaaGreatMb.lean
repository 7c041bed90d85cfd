/-
  Parts of the proof, one behind the other: AbB, AbC.
-/
import Derived.Test.YtgieagiaagoogaaGreatMa
import Derived.Orders
import Derived.Scope
set_option linter.all false
namespace Go.Ab
open Go Go.RowKit
section
variable {P:Program} {B:Nat} {o:Oper} {a:Act} {w w':World} {F F':Nat->Prop} {γ γ':Nat->Value} {M m:aY} {R:Nat->Value->Prop}
def DK {t:Ty} {l:List t.den} {v:Value} (hr:aD w F (.sl t) l (λ_ u=>u=v)) :
  ∃ A c xs,v = .slice A l.length c/\l.length<=c/\(A=none->l=[])/\xs.length=l.length*t.size/\cJ w F t l xs/\∀ ad,A=some ad->∀ (j:Nat) u,xs[j]? = some u->w.cell? (ad.add j)=some u:=by
 obtain⟨A,c,h1,h2,h3,h4⟩:=hr;cases A with
 |none=>
  have hl:l=[]:=by
   cases l with
   |nil=>rfl
   |cons x l=>
    obtain⟨ad,he,_⟩:=h4 0 x rfl;cases he
  subst hl;exact⟨none,c,[],h1.symm,h2,λ_=>rfl,by simp,λi x hi=>by simp at hi,λad he=>by cases he⟩
 |some ad=>
  refine⟨some ad,c,(List.range (l.length*t.size)).map λk=>(w.cell? (ad.add k)).getD undef,h1.symm,h2,(λh=>by cases h),by simp,λi x hi=>?_,λad' he j u hj=>?_⟩
  ·obtain⟨ad',he,_,h5⟩:=h4 i x hi;cases he;refine h5.mono (λ_ h=>h) (λ_ _=>rfl) λj u hj hu=>?_;have hil:=(uak.1 hi).1;have:i*t.size+j<l.length*t.size:=by
    have:i*t.size+t.size<=l.length*t.size:=by rw[<- uev]; exact ubc _ hil
    omega
   rw[ucm,List.getElem?_range this];simp[hu]
  ·cases he;rw[ucm] at hj;have hjl:j<l.length*t.size:=by
    rcases ueo j (l.length*t.size) with h|h
    ·exact h
    ·rw[ua2 (by simpa using h)] at hj;simp at hj
   rw[List.getElem?_range hjl] at hj;simp at hj;have hpos:0<t.size:=by
    rcases ub3 t.size with h0|h0
    ·rw[h0] at hjl; omega
    ·exact h0
   have hi:=(Nat.div_lt_iff_lt_mul hpos).2 hjl;obtain⟨ad',he,_,h5⟩:=h4 (j/t.size) _ (uap hi);cases he;obtain⟨y,e1,_⟩:=aD.cell t h5 (j%t.size) (Nat.mod_lt _ hpos);rw[ueu,Nat.div_add_mod] at e1;rw[e1] at hj |-;simpa using hj
def cJ.append {t:Ty} {l k:List t.den} {xs ys:List Value} (hx:cJ w F t l xs) (hl:xs.length=l.length*t.size) (hy:cJ w F t k ys):cJ w F t (l++k) (xs++ys):=by
 intro i x hi;rcases ueo i l.length with h|h
 ·rw[uaj h] at hi;refine(hx i x hi).mono (λ_ h=>h) (λ_ _=>rfl) λj u hj hu=>?_;have:i*t.size+t.size<=l.length*t.size:=by rw[<- uev]; exact ubc _ h
  rw[uaj (by omega)];exact hu
 ·rw[uae h] at hi;refine(hy (i-l.length) x hi).mono (λ_ h=>h) (λ_ _=>rfl) λj u hj hu=>?_;have h2:i*t.size=l.length*t.size+(i-l.length)*t.size:=by rw[<- ufc]; congr 1; omega
  rw[uae (by omega)];rw[<- hu];congr 1;omega
def S3 {c:AC} {t:Ty} {l:List t.den} {v:Value} (hm:MemOK P B w F γ M) (hsub:∀ i y,m i=some y->M i=some y) (h:sP m c=some ⟨t,l⟩) (hr:bh P w F (aA M γ) c v) :
  ∃ A cap xs,v = .slice A l.length cap/\l.length<=cap/\(A=none->l=[])/\xs.length=l.length*t.size/\cJ w F t l xs/\∀ ad,A=some ad->∀ (j:Nat) u,xs[j]? = some u->w.cell? (ad.add j)=some u:=by
 unfold sP at h;split at h<;>try trivial
 ·cases h;exact DK hr
 ·cases h;obtain⟨A,_,h2⟩:=hr;exact DK h2
 ·rename_i id;split at h<;>try trivial
  ·rename_i ety t' l' hmid;cases h;have hv:=kd (hsub _ _ hmid) (by simp) hr;subst hv;obtain⟨xs,hown,_,hrows,_⟩:=hm.ob id _ (hsub _ _ hmid);rcases hown.2 with ⟨h3,h4⟩|⟨g,cap,cur,h3,_,_,h4,_⟩
   ·exact⟨none,0,xs,by rw[h3,h4],by omega,λ_=>uab h4,hown.1,hrows,λad he=>by cases he⟩
   ·refine⟨_,_,xs,h3,h4,(λh=>by cases h),hown.1,hrows,λad he=>?_⟩;cases he;exact hown.cells (by rw[h3]; rfl)
  ·rename_i t' l' hmid;cases h;have hv:=kd (hsub _ _ hmid) (by simp) hr;subst hv;exact DK (hm.ob id _ (hsub _ _ hmid))
def U9 (t ty e:TypeId) (i:TypeInfo) (ht:P.underlying t=some (.slice e)) (hi:P.info? e=some i) (A:Option Addr) (n cap:Nat) (hnc:n<=cap) (c:Nat) :
  (Builtin.append_ #[t,t] ty #[.slice A n cap,.slice none 0 c]).run P w = .ok (.slice A n cap) w:=by
 cases A<;>simp[Builtin.append_,ud3 ht,sizeOf,typeInfo,hi,Builtin.lenOf,Builtin.firstCells,hnc,storeCells]
def yi (t ty e:TypeId) (i:TypeInfo) (z:Value) (size:Nat) (ht:P.underlying t=some (.slice e)) (hi:P.info? e=some i) (hz:i.zero=some z) (hsize:i.size=size) (hzs:z.cells.size=size) (hsz:0<size)
  (s:Value) (n:Nat) (xs:List Value) (hown:w.ownsRow B e size s n xs) (A:Option Addr) (k c:Nat) (news:List Value) (hA:A=none->k=0) (hl:news.length=k*size)
  (hc:∀ ad,A=some ad->∀ (j:Nat) u,news[j]? = some u->w.cell? (ad.add j)=some u) (h1:∀ u∈news,u.oneCell'=true) (h63:n+k<=maxLen) (hbytes:(n+k)*i.bytes<=140737488355328) (hB:B<=w.heap.size) :
  ∃ v' w',(Builtin.append_ #[t,t] ty #[s,.slice A k c]).run P w = .ok v' w'/\w'.ownsRow B e size v' (n+k) (xs++news)/\w.grownBy w' s.ownBlock/\(v'.ownBlock=s.ownBlock\/v'.ownBlock=some w.heap.size):=by
 cases A with
 |none=>
  have hk:=hA rfl;subst hk;have hn:=uab (by simpa using hl);subst hn;rcases hown.2 with ⟨rfl,rfl⟩|⟨g,cap,cur,rfl,_,_,hnc,_⟩
  ·exact⟨_,w,U9 t ty e i ht hi none 0 0 (ufa _) c,by simpa using hown,⟨rfl,rfl,rfl,ufa _,λ_ _ _=>rfl⟩,.inl rfl⟩
  ·exact⟨_,w,U9 t ty e i ht hi _ n cap hnc c,by simpa using hown,⟨rfl,rfl,rfl,ufa _,λ_ _ _=>rfl⟩,.inl rfl⟩
 |some ad=>
  obtain⟨v',w',e1,e2,e3,_,e5⟩:=run_append_own_at w B t ty e i z size i.bytes ht hi hz hsize rfl hzs hsz s n xs hown ad k c news hl (hc ad rfl) h1 h63 hbytes hB;exact⟨v',w',e1,e2,e3,e5⟩
def qa0 (t ty e:TypeId) (i:TypeInfo) (z:Value) (size:Nat) (ht:P.underlying t=some (.slice e)) (hi:P.info? e=some i) (hz:i.zero=some z) (hsize:i.size=size) (hzs:z.cells.size=size)
  (S:Option Addr) (n:Nat) (xs:List Value) (hS:S=none->n=0) (hxl:xs.length=n*size) (hxc:∀ ad,S=some ad->∀ (j:Nat) u,xs[j]? = some u->w.cell? (ad.add j)=some u)
  (A:Option Addr) (k c:Nat) (news:List Value) (hk:0<k) (hA:A=none->k=0) (hl:news.length=k*size)
  (hc:∀ ad,A=some ad->∀ (j:Nat) u,news[j]? = some u->w.cell? (ad.add j)=some u) (h63:n+k<=maxLen) (hbytes:(n+k)*i.bytes<=140737488355328) (hB:B<=w.heap.size) :
  ∃ v' w',(Builtin.append_ #[t,t] ty #[.slice S n n,.slice A k c]).run P w = .ok v' w'/\w'.ownsRow B e size v' (n+k) (xs++news)/\w.grownBy w' none/\v'.ownBlock=some w.heap.size:=by
 subst hsize;obtain⟨ad,rfl⟩:∃ ad,A=some ad:=by
  cases A with
  |none=>have:=hA rfl; omega
  |some ad=>exact⟨ad,rfl⟩
 have hlen:(xs++news).length=(n+k)*i.size:=by rw[ub4,hxl,hl,ufc]
 have hge:=grownCap_ge w (n+k) n e;have hcm:=ub5 w (n+k) n e h63;have hmax:((n+k:Nat):Int)<=9223372036854775807:=by simp only[maxLen] at h63; omega
 have grown:(w.drew.alloc (.cells (xs.toArray++news.toArray++Builtin.zeroCells z.cells (grownCap w (n+k) n e-(n+k))) e)).ownsRow B e i.size (.slice (some ⟨w.heap.size,0,none⟩) (n+k) (grownCap w (n+k) n e)) (n+k) (xs++news):=by
  refine⟨hlen,.inr ⟨w.heap.size,_,_,rfl,hB,ud5 w.drew _,hge,hcm,?_,?_⟩⟩
  ·simp only[ucn,uco,size_zeroCells,hzs,hxl,hl,<- ufc];congr 1;omega
  ·simp;rw[<- ucp,<- hlen];exact List.take_left
 have hgb:w.grownBy (w.drew.alloc (.cells (xs.toArray++news.toArray++Builtin.zeroCells z.cells (grownCap w (n+k) n e-(n+k))) e)) none:=⟨rfl,rfl,rfl,by simp,λb hb _=>heap_alloc_old w.drew _ b hb⟩;cases S with
 |none=>
  have hn:=hS rfl;subst hn;have hx:=uab (by simpa using hxl);subst hx;have hr:=run_append_nil w t ty e i z ht hi hz ad k c news hl (hc ad rfl) hk (by simpa using hmax) (by have hb:=hbytes; simp at hb; omega);simp at grown hgb |-;exact⟨_,_,hr,grown,hgb,rfl⟩
 |some sd=>
  have hr:=run_append_grow w t ty e i z ht hi hz sd n n xs hxl (hxc sd rfl) ad k c news hl (hc ad rfl) (by omega) hmax (growslice_fits (by omega) hbytes);exact⟨_,_,hr,grown,hgb,rfl⟩
def wD {t:TypeId} {size n:Nat} {s:Value} {xs:List Value} (h:w.ownsRow B t size s n xs):s.oneCell'=true:=by
 rcases h.2 with ⟨rfl,_⟩|⟨g,cap,cur,rfl,_⟩<;>rfl
def qa1 {d:Nat} {t ty:TypeId} {s x:AV} {e:Eff} {vs vx:Value} (hm:MemOK P B w F γ M) (hb:∀ b,F b->b<w.heap.size) (hB:B<=w.heap.size) (hsub:∀ i y,m i=some y->M i=some y) (hd:m d=none->M d=none)
  (h:G1 P d t s x m=some e) (hn:aE e.need) (hs:aM P w F (aA M γ) s vs) (hx:aM P w F (aA M γ) x vx) :
  ∃ u w' γ',(Builtin.append_ #[t,t] ty #[vs,vx]).run P w = .ok u w'/\Step B w F γ M w' F γ' (aK M e.wr)/\MemOK P B w' F γ' (aK M e.wr)/\aM P w' F (aA (aK M e.wr) γ') e.v u:=by
 unfold G1 at h;split at h<;>try trivial
 rename_i el ht;split at h<;>try trivial
 rename_i i tt hi htt hmd;have hMd:=hd hmd;split at h<;>try trivial
 rename_i hsz;obtain⟨hsz1,hsz2,hsz3⟩:=hsz;obtain⟨z,hz,hzs⟩:∃ z,i.zero=some z/\z.cells.size=tt.size:=by
  cases hz:i.zero with
  |none=>simp[hz] at hsz3
  |some z=>exact⟨z,rfl,by simpa[hz] using hsz3⟩
 split at h<;>try trivial
 rename_i new hnew;obtain⟨A,cap,news,hvx,hlc,hA,hnl,hnr,hncell⟩:∃ A cap news,vx = .slice A new.length cap/\new.length<=cap/\(A=none->new=[])/\news.length=new.length*tt.size/\cJ w F tt new news/\∀ ad,A=some ad->∀ (j:Nat) u,news[j]? = some u->w.cell? (ad.add j)=some u:=by
  split at hnew<;>try trivial
  ·cases hnew;obtain⟨_,rfl⟩:=hx;exact⟨none,0,[],rfl,ufa _,λ_=>rfl,by simp,λi x hi=>by simp at hi,λad he=>by cases he⟩
  ·split at hnew<;>try trivial
   rename_i u l hl;split at hnew<;>try trivial
   rename_i hu;subst hu;cases hnew;exact S3 hm hsub hl hx.2
 subst hvx;have hA':A=none->new.length=0:=λh=>by rw[hA h]; rfl
 have hone:=AH hnr hnl;split at h<;>try trivial
 ·
  cases h;obtain⟨_,rfl⟩:=hs;obtain⟨v',w',e1,e2,e3,e4⟩:=yi t ty el i z tt.size ht hi hz hsz1 hzs hsz2 (.slice none 0 0) 0 [] (ucq w B el tt.size) A new.length cap news hA' hnl hncell hone (by have:=hn.1; omega) (by have:=hn.2; simpa using this) hB;rw[uew,udk] at e2;obtain⟨s1,s2⟩:=wz hm hb hB hMd e3 e2 (λg hg=>by rcases e4 with h|h<;>rw[h] at hg<;>simp[Value.ownBlock] at hg; omega) (hnr.mono (λ_ h=>h) (λb hb'=>e3.block b (hb b hb') (by simp[Value.ownBlock])));exact⟨v',w',_,e1,s1,s2,ny (wD e2)⟩
 ·
  rename_i id;split at h<;>try trivial
  rename_i e' u l hid;split at h<;>try trivial
  rename_i hu;subst hu;split at h<;>try trivial
  rename_i he';obtain⟨rfl,_⟩:=he';cases h;have hcast:dw (rfl:u=u) l=l:=rfl;have hv:=kd (hsub _ _ hid) (by simp) hs.2;subst hv;obtain⟨xs,q1,q2,q3,q4⟩:=hm.ob id _ (hsub _ _ hid);obtain⟨v',w',e1,e2,e3,e4⟩:=yi t ty e' i z u.size ht hi hz hsz1 hzs hsz2 (γ id) l.length xs q1 A new.length cap news hA' hnl hncell hone hn.1 hn.2 hB;have hFb:=λb hb'=>e3.block b (hb b hb') (λhe=>q2 b he.symm hb');rw[<- ub4] at e2;obtain⟨s1,s2⟩:=DU hm hb hB (hsub _ _ hid) hMd e3 e2 (e4.elim .inl (λh=>.inr (.inl h))) ((q3.append q1.1 hnr).mono (λ_ h=>h) hFb);exact⟨v',w',_,e1,s1,s2,ny (wD e2)⟩
 ·
  rename_i u l;split at h<;>try trivial
  rename_i hu;subst hu;cases h;have hcast:dw (rfl:u=u) l=l:=rfl;obtain⟨_,S,hvs,hrs⟩:=hs;obtain⟨S',c',xs,hv,_,hS,hxl,hxr,hxc⟩:=DK hrs;rw[hvs] at hv;cases hv;subst hvs;obtain⟨v',w',e1,e2,e3,e4⟩:=qa0 t ty el i z u.size ht hi hz hsz1 hzs S l.length xs (λh=>by rw[hS h]; rfl) hxl hxc A new.length cap news hn.1 hA' hnl hncell hn.2.1 hn.2.2 hB;rw[<- ub4] at e2;obtain⟨s1,s2⟩:=wz hm hb hB hMd e3 e2 (λg hg=>by rw[e4] at hg; simp at hg; omega) ((hxr.append hxl hnr).mono (λ_ h=>h) (λb hb'=>e3.block b (hb b hb') (by simp)));exact⟨v',w',_,e1,s1,s2,ny (wD e2)⟩
end
end Go.Ab

namespace Go.Ab
open Go Go.RowKit
section
variable {P:Program} {B:Nat} {o:Oper} {a:Act} {w w':World} {F F':Nat->Prop} {γ γ':Nat->Value} {M m:aY} {R:Nat->Value->Prop}
def d8 (arr:Array Value) (off:Nat) (vs:List Value):Array Value:=(arr.toList.take off++vs++arr.toList.drop (off+vs.length)).toArray
def Ej {arr:Array Value} {off:Nat} {vs:List Value} (h:off+vs.length<=arr.size):(d8 arr off vs).size=arr.size:=by
 simp[d8];omega
def Ei {arr:Array Value} {off:Nat} {vs:List Value} (h:off+vs.length<=arr.size) {j:Nat} (hj:j<vs.length):(d8 arr off vs)[off+j]? = vs[j]? := by
 simp only[d8,List.getElem?_toArray];rw[uaj (by simp; omega),uae (by simp; omega)];congr 1;simp;omega
def wB {arr:Array Value} {off:Nat} {vs:List Value} (h:off+vs.length<=arr.size) {j:Nat} (hj:j<off\/off+vs.length<=j):(d8 arr off vs)[j]? = arr[j]? := by
 simp only[d8,List.getElem?_toArray];rcases hj with hj|hj
 ·rw[uaj (by simp; omega),uaj (by simp; omega),ub0,if_pos hj];simp
 ·rw[uae (by simp; omega),ubz];simp only[ub4,uc3,ubs];rw[show off+vs.length+(j-(min off arr.size+vs.length))=j from by omega];simp
def Lz {t ty:TypeId} {ti:TypeInfo} {b off:Nat} {arr:Array Value} {v:Value} (hg:w.heap[b]? = some (.cells arr ty (0,0))) (hi:P.info? t=some ti) (hn:v.cells.size=P.cellsOf t) (hl:off+v.cells.size<=arr.size)
  (h1:∀ u∈v.cells,u.oneCell'=true):(Instr.storeAt t (.pointer (some ⟨b,off,none⟩)) v).run P w = .ok () (w.setRow b (d8 arr off v.cells.toList)):=by
 have:=run_storeCells_at (P:=P) b off ty v.cells.toList 0 arr w hg (by simpa using hl) (λu hu=>h1 u (ubf.1 hu));simp[Instr.storeAt,Instr.sureAddr,storeVar,iy hi,hn,this,d8]
def Vj {b:Nat} {arr:Array Value} {m':aY} (hb:∀ b,F b->b<w.heap.size) (hF:¬ F b) (hB:B<=b) (hR:∀ i v,aA M γ i v->aA m' γ i v):Step B w F γ M (w.setRow b arr) F γ m':=
 ⟨λ_ h=>h,λc h=>uey w b c _ (λe=>hF (e ▸ h)),hR,λc h=>uey w b c _ (by omega),rfl,rfl,rfl,by simp,λc h=>by have:=hb c h; simpa using this,λc h=>.inl h⟩
def qV {id off:Nat} {e:TypeId} {cs cs':List AC} {b:Nat} {arr:Array Value} {vs:List Value} (hm:MemOK P B w F γ M) (hb:∀ b,F b->b<w.heap.size) (hM:M id=some (.box e cs)) (hγ:γ id = .pointer (some ⟨b,0,none⟩))
  (hg:w.heap[b]? = some (.cells arr e (0,0))) (hF:¬ F b) (hB:B<=b) (hl:off+vs.length<=arr.size) (hs:arr.size=cs'.length) (hr:aR P w F (aA M γ) cs' (λj u=>(d8 arr off vs)[j]? = some u)) :
  Step B w F γ M (w.setRow b (d8 arr off vs)) F γ (upd M id (.box e cs'))/\MemOK P B (w.setRow b (d8 arr off vs)) F γ (upd M id (.box e cs')):=by
 have hst:Step B w F γ M (w.setRow b (d8 arr off vs)) F γ (upd M id (.box e cs')):=Vj hb hF hB (qN hM (by simp));refine⟨hst,hm.change hM (by simp) hst.hF hst.hw (λc h=>by rw[hγ] at h |-; exact h) (λc _ hne=>⟨uey w b c _ (λe'=>hne (by rw[hγ]; simp[cQ,e'])),λh=>h⟩) ?_⟩;exact⟨b,_,hγ,ufd w b arr _ e (0,0) hg,hF,hB,by rw[Ej hl]; exact hs,hst.repCL hr⟩
def qyr {id:Nat} {v:Value} {ob:Ob} (hM:M id=some ob) (hg:ob ≠ .gone) (h:aA M γ id v):v=γ id:=by
 unfold aA at h;cases ob<;>simp_all
def U3 {id:Nat}:{cs xs:List AC} -> {u:List (Nat×Ob)}->ix m cs=some (xs,u)->(cs.flatMap nc).all (· != id)=true->∀ M:aY,aK M u id=M id
 |[],xs,u,h,_,M=>by
  obtain⟨rfl,rfl⟩:=h;rfl
 |c::r,xs,u,h,hn,M=>by
  simp only[ix] at h;split at h
  ·rename_i x u1 y u2 h1 h2;cases h;have hn':(nc c).all (· != id)=true/\(r.flatMap nc).all (· != id)=true:=by
    simpa[udl] using hn
   rw[gY,U3 h2 hn'.2];unfold nY at h1;split at h1
   ·rename_i i;have hi:i≠id:=by
     have:=hn'.1;simpa[nc] using this
    split at h1<;>try trivial
    ·simp at h1;obtain⟨_,rfl⟩:=h1;exact fu _ _ (Ne.symm hi)
    ·simp at h1;obtain⟨_,rfl⟩:=h1;rfl
   ·simp at h1;obtain⟨_,rfl⟩:=h1;rfl
  ·cases h
def zct {t:TypeId} {x v:AV} {e:Eff} {vx vv:Value} (hm:MemOK P B w F γ M) (hb:∀ b,F b->b<w.heap.size) (hsub:∀ i y,m i=some y->M i=some y)
  (h:LG P t x v m=some e) (hn:aE e.need) (hx:aM P w F (aA M γ) x vx) (hv:aM P w F (aA M γ) v vv) :
  e.v = .dead/\∃ w' F',(Instr.storeAt t vx vv).run P w = .ok () w'/\Step B w F γ M w' F' γ (aK M e.wr)/\MemOK P B w' F' γ (aK M e.wr):=by
 unfold LG at h;split at h<;>try trivial
 rename_i new hnew;obtain⟨c1,c2,c3⟩:=vA hnew hv;split at h<;>try trivial
 rename_i hi;obtain⟨ti,hti⟩:=uaq.1 hi.1;have hsz:vv.cells.size=P.cellsOf t:=by omega
 split at h<;>try trivial
 ·
  rename_i id off;split at h<;>try trivial
  rename_i ety cs hid;split at h<;>try trivial
  rename_i cs' hput;cases h;obtain⟨b,arr,e1,rfl,e3,e4,e5,e6,e7⟩:=oD hm (hsub _ _ hid) hx.2;have hl:off+vv.cells.toList.length<=arr.size:=by
   unfold pp at hput;split at hput
   ·simp; omega
   ·cases hput
  obtain⟨p1,p2⟩:=E5 (g':=λj u=>(d8 arr off vv.cells.toList)[j]? = some u) hput e7 (c2.turn λj u hj hu=>by
    rw[Ei hl (by simp; omega)]; simpa using hu) (λj u hj hu=>by
    rw[wB hl (by simp; omega)]; exact hu)
  obtain⟨s1,s2⟩:=qV hm hb (hsub _ _ hid) e1 e3 e4 e5 hl (by omega) p2;exact⟨rfl,_,F,Lz e3 hti hsz (by simpa using hl) c3,s1,s2⟩
 ·
  rename_i id sz i off;split at h<;>try trivial
  rename_i ety tt l new' u hid hrs;split at h<;>try trivial
  rename_i hc;obtain⟨hsz',hno⟩:=hc;split at h<;>try trivial
  rename_i row hput;split at h<;>try trivial
  rename_i y hdec;cases h;have hil:i<l.length:=hn;obtain⟨F1,s1,m1,t1,l1,r1⟩:=AI hm hb (g6 hsub) hrs c2;have hM1:aK M u id=some (.arr ety tt l):=by rw[U3 hrs hno]; exact hsub _ _ hid
  obtain⟨b,c,arr,e1,e2,e3,e4,e5,e6⟩:=G2 m1 hM1 hil;obtain⟨A,n0,c0,f1,rfl⟩:=hx;have f2:=qyr (hsub _ _ hid) (by simp) f1;rw[e1] at f2;obtain⟨rfl,rfl,rfl⟩:=f2;subst hsz';have hlr:off+new'.length<=tt.size:=by
   unfold pp at hput;split at hput
   ·rename_i hle;rw[oP] at hle;exact hle
   ·cases hput
  have hnl:vv.cells.toList.length=new'.length:=by rw[l1]; simpa using c1
  have hlen:i*tt.size+off+vv.cells.toList.length<=arr.size:=by
   rw[uev] at e5;omega
  obtain⟨p1,p2⟩:=E5 (g':=λj u=>(d8 arr (i*tt.size+off) vv.cells.toList)[i*tt.size+j]? = some u) hput e6
   (r1.turn λj u hj hu=>by rw[<- uef,Ei hlen (by omega)]; simpa using hu)
   (λj u hj hu=>by rw[wB hlen (by omega)]; exact hu)
  obtain⟨q1,_⟩:=aD.dec tt hdec p2;have hst:Step B w F1 γ (aK M u) (w.setRow b (d8 arr (i*tt.size+off) vv.cells.toList)) F1 γ (upd (aK M u) id (.arr ety tt (l.set i y))):=Vj s1.bd e3 e4 (qN hM1 (by simp));have hmm:MemOK P B (w.setRow b (d8 arr (i*tt.size+off) vv.cells.toList)) F1 γ (upd (aK M u) id (.arr ety tt (l.set i y))):=by
   refine m1.change hM1 (by simp) hst.hF hst.hw (λc h=>h) (λc _ hne=>⟨uey w b c _ (λe'=>hne (by rw[e1]; simp[cQ,Value.ownBlock,e'])),λh=>h⟩) ?_;obtain⟨xs,hown,hnF,hrows,hone⟩:=m1.ob id _ hM1;obtain⟨hxl,hn'|⟨g,cap,cur,hv',hbg,hg,hnc,hcm,hcs,ht⟩⟩:=hown
   ·omega
   ·rw[e1] at hv';obtain⟨rfl,rfl⟩:=hv';rw[e2] at hg;simp at hg;subst hg;have hrowsN:cJ w F1 tt (l.set i y) ((d8 arr (i*tt.size+off) vv.cells.toList).toList.take (l.length*tt.size)):=by
     intro k x hk;have hkl:k<l.length:=by simpa using (uak.1 hk).1
     have hkb:k*tt.size+tt.size<=l.length*tt.size:=by rw[<- uev]; exact ubc _ hkl
     rcases ucr k i with h1|h1|h1
     ·rw[List.getElem?_set_ne (by omega)] at hk;have hki:k*tt.size+tt.size<=i*tt.size:=by rw[<- uev]; exact ubc _ h1
      refine(hrows k x hk).mono (λ_ h=>h) (λ_ _=>rfl) λj u hj hu=>?_;rw[ub0,if_pos (by omega),ua3,wB hlen (by omega)];rw[<- ht,ub0,if_pos (by omega)] at hu;simpa using hu
     ·subst h1;rw[List.getElem?_set_self hkl] at hk;cases hk;refine q1.mono (λ_ h=>h) (λ_ _=>rfl) λj u hj hu=>?_;rw[ub0,if_pos (by omega),ua3];exact hu
     ·rw[List.getElem?_set_ne (by omega)] at hk;have hki:i*tt.size+tt.size<=k*tt.size:=by rw[<- uev]; exact ubc _ h1
      refine(hrows k x hk).mono (λ_ h=>h) (λ_ _=>rfl) λj u hj hu=>?_;rw[ub0,if_pos (by omega),ua3,wB hlen (by omega)];rw[<- ht,ub0,if_pos (by omega)] at hu;simpa using hu
    have hlc:l.length*tt.size<=arr.size:=by rw[hcs]; exact ubc _ hnc
    have hxl':((d8 arr (i*tt.size+off) vv.cells.toList).toList.take (l.length*tt.size)).length=(l.set i y).length*tt.size:=by
     have h8:(d8 arr (i*tt.size+off) vv.cells.toList).toList.length=arr.size:=by simpa using Ej hlen
     rw[uc3,h8,udm];omega
    refine⟨_,⟨hxl',.inr ⟨b,_,_,by rw[e1,udm],hbg,ufd w b arr _ ety (0,0) e2,by rw[udm]; exact hnc,hcm,by rw[Ej hlen]; exact hcs,by rw[udm]⟩⟩,hnF,hrowsN.mono hst.hF hst.hw,AH hrowsN hxl'⟩
  have hrun:=Lz e2 hti hsz (by simpa using hlen) c3;refine⟨rfl,_,F1,by rw[jK,uew]; exact hrun,?_,?_⟩
  ·rw[gY];exact s1.trans hst
  ·rw[gY];exact hmm
 ·
  rename_i id off n i;split at h<;>try trivial
  rename_i ety cs k y hid;split at h<;>try trivial
  rename_i bf hseg;split at h<;>try trivial
  rename_i ns hns;split at h<;>try trivial
  rename_i cs' hput;cases h;obtain⟨ad,a1,a2,a3,rfl⟩:=hx;obtain⟨b,arr,e1,e2,e3,e4,e5,e6,e7⟩:=oD hm (hsub _ _ hid) a1;simp at e2;subst e2;obtain⟨u,hcells,hu2⟩:∃ u,vv.cells = #[u]/\(u = .int k y/\inR k y):=by
   obtain⟨⟨u,g1,_,g3⟩,_⟩:=c2;have:vv.cells.size=1:=by simpa using c1
   refine⟨u,?_,g3⟩;apply ufo
   ·simpa using this
   ·intro j hj1 hj2;have:j=0:=by simp at hj2; exact hj2
    subst this;have:=(uaf.1 g1).2;simpa using this
  obtain⟨hu2,hy⟩:=hu2;subst hu2;have hseq:=DE hns;obtain⟨g1,g2⟩:=wg hseg e7;have hsb:off+n<=cs.length:=by
   unfold iQ at hseg;split at hseg
   ·assumption
   ·cases hseg
  have hl:off+i.toNat+vv.cells.toList.length<=arr.size:=by rw[hcells]; simp; omega
  have hnsl:ns.length=n:=by rw[hseq] at g1; simpa using g1
  have hset:∀ (ns:List Int) (j0:Nat),(qU ns j0 i y).length=ns.length/\∀ j,(qU ns j0 i y)[j]? = if i=((j0+j:Nat):Int)/\j<ns.length then some y else ns[j]? := by
   intro ns
   induction ns with
   |nil=>intro j0; exact⟨rfl,λj=>by simp[qU]⟩
   |cons q r ih=>
    intro j0;obtain⟨i1,i2⟩:=ih (j0+1);refine⟨by simp[qU,i1],λj=>?_⟩;cases j with
    |zero=>
     simp only[qU,uex,uc7];by_cases hq:i=(j0:Int)
     ·rw[if_pos ⟨hq,by omega⟩]; simp[hq]
     ·rw[if_neg (by omega)];have:(i==(j0:Int))=false:=by simpa using hq
      simp[this]
    |succ j=>
     simp only[qU,List.getElem?_cons_succ,uc7];rw[i2];by_cases hq:i=((j0+1+j:Nat):Int)/\j<r.length
     ·rw[if_pos hq,if_pos ⟨by rw[hq.1]; congr 1; omega,by omega⟩]
     ·rw[if_neg hq,if_neg (λhh=>hq ⟨by rw[hh.1]; congr 1; omega,by omega⟩)]
  obtain⟨z1,z2⟩:=hset ns 0;obtain⟨p1,p2⟩:=E5 (g':=λj u=>(d8 arr (off+i.toNat) vv.cells.toList)[j]? = some u) hput e7
   (pK _ λj c hc=>by
    rw[ucm,z2] at hc;by_cases hj:i=((0+j:Nat):Int)/\j<ns.length
    ·rw[if_pos hj] at hc;simp at hc;subst hc;refine⟨.int k y,?_,rfl,rfl,hy⟩;have hij:i.toNat=j:=by omega
     have:=Ei hl (j:=0) (by rw[hcells]; simp);rw[hij,uex] at this;rw[hij,this,hcells];rfl
    ·rw[if_neg hj] at hc;have hcs:bf[j]? = some c:=by rw[hseq,ucm]; exact hc
     obtain⟨u,d1,d2⟩:=g2.at_ hcs;refine⟨u,?_,d2⟩;rw[wB hl (by rw[hcells]; simp; omega)];exact d1)
   (λj u hj hu=>by
    rw[wB hl (by rw[hcells]; simp at hj |-; omega)];exact hu)
  obtain⟨s1,s2⟩:=qV hm hb (hsub _ _ hid) e1 e3 e4 e5 hl (by omega) p2;exact⟨rfl,_,F,by rw[jK]; exact Lz e3 hti hsz (by simpa using hl) c3,s1,s2⟩
end
end Go.Ab

namespace Go.Ab
open Go Go.RowKit
section
variable {P:Program} {B:Nat} {o:Oper} {a:Act} {w w':World} {F F':Nat->Prop} {γ γ':Nat->Value} {M m:aY} {R:Nat->Value->Prop} {Γ:Gm}
def qt2 {d:Nat} {t:TypeId} {n c:Int} {kn kc:IntKind} {e:Eff} (hm:MemOK P B w F γ M) (hb:∀ b,F b->b<w.heap.size) (hB:B<=w.heap.size) (hd:m d=none->M d=none)
  (h:Kj P d t n c m=some e) (hn:aE e.need) :
  ∃ u w' γ',(Instr.makeSlice t (.int kn n) (.int kc c)).run P w = .ok u w'/\Step B w F γ M w' F γ' (aK M e.wr)/\MemOK P B w' F γ' (aK M e.wr)/\aM P w' F (aA (aK M e.wr) γ') e.v u:=by
 unfold Kj at h;split at h<;>try trivial
 rename_i el ht;split at h<;>try trivial
 rename_i i tt hi htt hmd;split at h<;>try trivial
 rename_i z hz;split at h<;>try trivial
 rename_i cs hcs;split at h<;>try trivial
 rename_i x hdec;split at h<;>try trivial
 rename_i hsz;obtain⟨hs1,hs2,hs3⟩:=hsz;cases h;obtain⟨n1,n2,n3,n4⟩:=hn;obtain⟨z1,z2,_⟩:=vA hcs (BS (P:=P) (R:=aA M γ) z);obtain⟨r1,_⟩:=aD.dec tt hdec z2;have hr:=run_make w t el i z ht hi hz kn kc n c n1 n2 (by rw[uez]; omega) (by simp only[maxLen] at n3; omega);have hcn:c.toNat<=maxLen:=by omega
 have hcell:∀ k,k<c.toNat*i.size->(madeCells z.cells (c.toNat*i.size))[k]? = z.cells[k%z.cells.size]? := by
  intro k hk;have hpos:0<z.cells.size:=by omega
  have hlt:=Nat.mod_lt k hpos;have hg:z.cells[k%z.cells.size]! = z.cells[k%z.cells.size]:=by simp[hlt]
  simp[madeCells,hk,hg]
 have hrows:cJ (w.alloc (.cells (madeCells z.cells (c.toNat*i.size)) el)) F tt (List.replicate n.toNat x) ((madeCells z.cells (c.toNat*i.size)).toList.take (n.toNat*tt.size)):=by
  intro k y hk;have hkn:k<n.toNat:=by simpa using (uak.1 hk).1
  have hy:y=x:=by
   have:=(uak.1 hk).2;simpa using this.symm
  subst hy;have hkb:k*tt.size+tt.size<=n.toNat*tt.size:=by rw[<- uev]; exact ubc _ hkn
  have hnc:n.toNat*tt.size<=c.toNat*i.size:=by rw[hs1]; exact ubc _ (by omega)
  refine r1.mono (λ_ h=>h) (λb hb'=>uc8 _ _ _ (hb b hb')) λj u hj hu=>?_;rw[ub0,if_pos (by omega),ua3,hcell _ (by omega),hs2];rw[show(k*tt.size+j)%tt.size=j from by rw[ueu,Nat.mul_add_mod]; exact Nat.mod_eq_of_lt hj];exact hu
 have hlen:(List.replicate n.toNat x).length=n.toNat:=by simp
 obtain⟨s1,s2⟩:=wz hm hb hB (hd hmd)
  (ubt w _ none)
  ⟨by
    rw[uc3,ubs,size_madeCells,hlen];have:n.toNat*tt.size<=c.toNat*i.size:=by rw[hs1]; exact ubc _ (by omega)
    omega,
   .inr ⟨w.heap.size,c.toNat,_,by rw[hlen],hB,ud5 w _,by rw[hlen]; omega,hcn,by rw[size_madeCells,hs1],by rw[hlen]⟩⟩
  (λg hg=>by simp[Value.ownBlock] at hg; omega) hrows
 exact⟨_,_,_,hr,s1,s2,ny rfl⟩
def Q0 {sz:Nat} {t:Ty} (hsz:t.size=sz):{vs:List (Nat×AV)} -> {ps:List (Nat×Value)} -> {l:List t.den} -> {k:Nat} -> {arr:Array Value}->px t k vs=some l->ps.length=vs.length ->
  (∀ (q i:Nat) (x:AV) (v:Nat×Value),vs[q]? = some (i,x)->ps[q]? = some v->v.1=i/\aM P w F R x v.2)->(k+vs.length)*sz<=arr.size ->
  l.length=vs.length/\∃ arr',Instr.fill (λi=>some (i*sz,sz)) arr ps=some arr'/\arr'.size=arr.size/\(∀ j,j<k*sz->arr'[j]? = arr[j]?) /\
   ∀ (i:Nat) (x:t.den),l[i]? = some x->aD w F t x (λj u=>arr'[(k+i)*sz+j]? = some u)
 |[],[],l,k,arr,h,_,_,_=>by
  simp only[px,ucj] at h;subst h;exact⟨rfl,arr,rfl,rfl,λ_ _=>rfl,λi x hi=>by simp at hi⟩
 |(i,x)::r,(i',v)::ps,l,k,arr,h,hl,hp,hb=>by
  obtain⟨rfl,hv⟩:=hp 0 i x (i',v) rfl rfl;simp only at hv;simp only[px] at h;split at h<;>try trivial
  rename_i hik;split at h<;>try trivial
  rename_i y l' hy hl';cases h;have hrep:=CN hy hv;obtain⟨e1,e2,e3⟩:=hrep;have hbk:k*sz+sz<=arr.size:=by
   have h1:(k+1)*sz<=(k+(r.length+1))*sz:=ubc _ (by omega);rw[uev] at h1;simp at hb;omega
  obtain⟨f1,f2⟩:=Q7 v.cells.toList (k*sz) 0 arr;have hz:v.cells.zipIdx.foldl (λcs (x:Value×Nat)=>cs.setIfInBounds (k*sz+x.2) x.1) arr=(v.cells.toList.zipIdx 0).foldl (λcs (x:Value×Nat)=>cs.setIfInBounds (k*sz+x.2) x.1) arr:=by
   rw[<- Array.foldl_toList,Array.toList_zipIdx]
  obtain⟨g1,arr',g2,g3,g4,g5⟩:=Q0 hsz hl' (by simpa using hl)
   (λq i x v h1 h2=>hp (q+1) i x v (by simpa using h1) (by simpa using h2)) (by rw[f1]; simp at hb; rw[show k+1+r.length=k+(r.length+1) from by omega]; exact hb)
  refine⟨by simp[g1],arr',?_,by rw[g3,f1],λj hj=>?_,λq z hq=>?_⟩
  ·subst hik;simp only[Instr.fill];rw[if_neg (by simp; omega),<- g2];congr 1
  ·rw[g4 j (by rw[uev]; omega),f2,if_neg (by omega)]
  ·cases q with
   |zero=>
    simp at hq;subst hq;refine e3.mono (λ_ h=>h) (λ_ _=>rfl) λj u hj hu=>?_;rw[uex,g4 _ (by rw[uev]; omega),f2,if_pos (by simp; omega)];simpa using hu
   |succ q=>
    have:=g5 q z (by simpa using hq);rw[show k+1+q=k+(q+1) from by omega] at this;exact this
 |[],_::_,_,_,_,_,hl,_,_=>by simp at hl
 |_::_,[],_,_,_,_,hl,_,_=>by simp at hl
def qb0 {t el:TypeId} {n:Nat} {i:TypeInfo} {z:Value} {tt:Ty} {d:Nat} {vs:List (Nat×AV)} {ps:Array (Nat×Value)} {l:List tt.den} (hm:MemOK P B w F γ M) (hb:∀ b,F b->b<w.heap.size) (hB:B<=w.heap.size) (hd:M d=none)
  (ht:P.underlying t=some (.slice el)) (hi:P.info? el=some i) (hz:i.zero=some z) (hs:i.size=tt.size) (hzs:z.cells.size=tt.size) (hpos:0<tt.size) (hbig:n*i.size<=16777216) (h:px tt 0 vs=some l) (hl:l.length=n)
  (hps:ps.size=vs.length) (hp:∀ (q i:Nat) (x:AV) (v:Nat×Value),vs[q]? = some (i,x)->ps[q]? = some v->v.1=i/\aM P w F (aA M γ) x v.2) :
  ∃ u w' γ',(Instr.buildSlice t n ps).run P w = .ok u w'/\Step B w F γ M w' F γ' (upd M d (.arr el tt l))/\MemOK P B w' F γ' (upd M d (.arr el tt l))/\aM P w' F (aA (upd M d (.arr el tt l)) γ') (.c (.own d)) u:=by
 have hlen0:vs.length=n:=by
  have:∀ (vs:List (Nat×AV)) (k:Nat) (l:List tt.den),px tt k vs=some l->l.length=vs.length:=by
   intro vs
   induction vs with
   |nil=>intro k l h; simp only[px,ucj] at h; subst h; rfl
   |cons x r ih=>
    intro k l h;simp only[px] at h;split at h<;>try trivial
    split at h<;>try trivial
    rename_i h2;cases h;simp[ih _ _ h2]
  rw[<- this vs 0 l h,hl]
 have hnn:n<=maxLen:=by
  have:n*1<=n*i.size:=Nat.mul_le_mul_left _ (by omega);simp only[maxLen];omega
 have key:∀ arr0:Array Value,arr0.size=n*i.size->∃ arr',Instr.fill (λj=>some (j*i.size,i.size)) arr0 ps.toList=some arr'/\arr'.size=n*i.size/\∀ (k:Nat) (x:tt.den),l[k]? = some x->aD w F tt x (λj u=>arr'[k*i.size+j]? = some u):=by
  intro arr0 h0;obtain⟨_,arr',g2,g3,_,g5⟩:=Q0 hs.symm (ps:=ps.toList) h (by simpa using hps) (λq i x v h1 h2=>hp q i x v h1 (by simpa using h2)) (by rw[h0,uew,hlen0]; exact ufa _);exact⟨arr',g2,by rw[g3,h0],λk x hk=>by have:=g5 k x hk; rw[uew] at this; exact this⟩
 have hzv:(zeroValue el).run P w = .ok z w:=by simp[zeroValue,typeInfo,hi,hz]
 have hrun:∃ arr',arr'.size=n*i.size/\(∀ (k:Nat) (x:tt.den),l[k]? = some x->aD w F tt x (λj u=>arr'[k*i.size+j]? = some u)) /\
   (Instr.buildSlice t n ps).run P w = .ok (.slice (some ⟨w.heap.size,0,none⟩) n n) (w.alloc (.cells arr' el)):=by
  have hci:P.cellsOf el=i.size:=by simp[Program.cellsOf,hi]
  have hbig':¬ (16777216<n*i.size):=by omega
  by_cases hn0:n*i.size=0
  ·obtain⟨arr',k1,k2,k3⟩:=key ((Array.range 0).map λ_=>default) (by simp[hn0]);refine⟨arr',k2,k3,?_⟩;simp only[Instr.buildSlice,uer,ud3 ht,uck,iy hi,hci];simp[hn0,k1,newRow,Sem.run]
  ·obtain⟨arr',k1,k2,k3⟩:=key ((Array.range (n*i.size)).map (λj=>z.cells[j%z.cells.size]!)) (by simp);refine⟨arr',k2,k3,?_⟩;simp only[Instr.buildSlice,uer,ud3 ht,uck,iy hi,hci];simp[hn0,hbig',hzv,k1,newRow,newObj,Sem.run]
 obtain⟨arr',k2,k3,hr⟩:=hrun;have hrows:cJ (w.alloc (.cells arr' el)) F tt l (arr'.toList.take (l.length*tt.size)):=by
  intro k x hk;have hkl:=(uak.1 hk).1;have hkb:k*tt.size+tt.size<=l.length*tt.size:=by rw[<- uev]; exact ubc _ hkl
  refine(k3 k x hk).mono (λ_ h=>h) (λb hb'=>uc8 _ _ _ (hb b hb')) λj u hj hu=>?_;rw[ub0,if_pos (by omega),ua3,<- hs];exact hu
 obtain⟨s1,s2⟩:=wz hm hb hB hd (ubt w _ none)
  ⟨by
    have h9:arr'.toList.length=n*tt.size:=by rw[<- hs]; simpa using k2
    rw[uc3,h9,hl]; exact Nat.min_self _,.inr ⟨w.heap.size,n,_,by rw[hl],hB,ud5 w _,by rw[hl]; exact ufa _,hnn,by rw[k2,hs],rfl⟩⟩
  (λg hg=>by simp[Value.ownBlock] at hg; omega) hrows
 exact⟨_,_,_,hr,s1,s2,ny rfl⟩
def UV {t:Ty} {l:List t.den} {A:Option Addr} {c lo hi mx:Nat} (hr:aD w F (.sl t) l (λ_ u=>u = .slice A l.length c)) (h1:lo<=hi) (h2:hi<=l.length) (h3:hi<=mx) (h4:mx<=c) :
  aD w F (.sl t) ((l.drop lo).take (hi-lo)) (λ_ u=>u = .slice (if mx=lo then A else A.map (·.add (lo*t.size))) (hi-lo) (mx-lo)):=by
 obtain⟨A',c',e1,e2,e3,e4⟩:=hr;obtain⟨rfl,_,rfl⟩:=e1;have hlen:((l.drop lo).take (hi-lo)).length=hi-lo:=by simp; omega
 refine⟨_,mx-lo,by rw[hlen],by rw[hlen]; omega,by omega,λi x hi'=>?_⟩;have hil:i<hi-lo:=by rw[<- hlen]; exact(uak.1 hi').1
 rw[ub0,if_pos hil,ubz] at hi';obtain⟨ad,rfl,f2,f3⟩:=e4 _ _ hi';refine⟨ad.add (lo*t.size),by rw[if_neg (by omega)]; rfl,by rw[rY]; exact f2,f3.mono (λ_ h=>h) (λ_ _=>rfl) λj u hj hu=>?_⟩;rw[o9,<- hu,ufc,uef]
def m8 {k:IntKind} {n:Int} {y:Nat} {code:BoundsCode} (h0:0<=n) (h1:n<=y):(Instr.sliceBound (.int k n) y code).run P w = .ok n.toNat w:=by
 simp[Instr.sliceBound,asIntOf,h0,h1]
def qv8 {bb:Bool} {r r':List AV} {x:Option Int} {vs:List Value} (h:wA bb r=some (x,r')) (hr:bC P w F R r vs) :
  (bb=false/\x=none/\r'=r)\/(bb=true/\∃ k n v vs',x=some n/\vs=v::vs'/\v = .int k n/\bC P w F R r' vs'):=by
 unfold wA at h;split at h
 ·simp at h;exact .inl ⟨rfl,h.1.symm,h.2.symm⟩
 ·cases h;cases vs with
  |nil=>exact hr.elim
  |cons v vs=>exact .inr ⟨rfl,_,_,v,vs,rfl,rfl,hr.1.2.1,hr.2⟩
 ·cases h
def zb3 {t e:TypeId} {ti:TypeInfo} {tt:Ty} {y:List tt.den} {l h k:Option Int} {kl kh kk:IntKind} {c:AC} {n:List Prop} {A:Option Addr} {cap:Nat} (ht:P.underlying t=some (.slice e)) (he:P.info? e=some ti) (hs:P.cellsOf e=tt.size)
  (hsl:L7 tt y l h k=some (c,n)) (hn:aE n) (hr:aD w F (.sl tt) y (λ_ u=>u = .slice A y.length cap)) :
  ∃ u,(Instr.sliceAt t (.slice A y.length cap) (l.map (.int kl)) (h.map (.int kh)) (k.map (.int kk))).run P w = .ok u w/\u.oneCell'=true/\bh P w F R c u:=by
 have hcap:y.length<=cap:=by
  obtain⟨A',c',e1,e2,_⟩:=hr;simp at e1;omega
 have hrun:∀ (lo hi mx:Nat),(Instr.sliceBounds true y.length cap (l.map (.int kl)) (h.map (.int kh)) (k.map (.int kk))).run P w = .ok (lo,hi,mx) w ->
   (Instr.sliceAt t (.slice A y.length cap) (l.map (.int kl)) (h.map (.int kh)) (k.map (.int kk))).run P w = .ok (.slice (if mx=lo then A else A.map (·.add (lo*tt.size))) (hi-lo) (mx-lo)) w:=by
  intro lo hi mx hb;simp[Instr.sliceAt,Instr.slice,ud3 ht,hb,iy he,hs]
 unfold L7 at hsl;split at hsl
 ·cases hsl;obtain⟨n1,n2,n3⟩:=hn;have hb:(Instr.sliceBounds true y.length cap (l.map (.int kl)) (h.map (.int kh)) ((none:Option Int).map (.int kk))).run P w = .ok ((l.getD 0).toNat,(h.getD y.length).toNat,cap) w:=by
   cases h with
   |none=>
    cases l with
    |none=>simp[Instr.sliceBounds]
    |some lo=>simp at n1 n2 n3; simp[Instr.sliceBounds,m8 n1 n2]
   |some hi=>
    have h3:hi<=(cap:Int):=by simp at n3; omega
    have h4:0<=hi:=by simp at n2; omega
    cases l with
    |none=>simp[Instr.sliceBounds,m8 h4 h3]
    |some lo=>
     simp at n1 n2 n3;simp[Instr.sliceBounds,m8 h4 h3,m8 (P:=P) (w:=w) (y:=hi.toNat) n1 (by omega)]
  have hrr:=UV (lo:=(l.getD 0).toNat) (hi:=(h.getD y.length).toNat) hr (by omega) (by omega) (by omega) (ufa _);refine⟨_,hrun _ _ _ hb,rfl,?_⟩;rw[show((h.getD y.length)-(l.getD 0)).toNat=(h.getD y.length).toNat-(l.getD 0).toNat from by omega];exact hrr
 ·rename_i q;split at hsl<;>try trivial
  cases hsl;obtain⟨n1,n2,n3,rfl⟩:=hn;have hb:(Instr.sliceBounds true y.length cap (l.map (.int kl)) ((some q).map (.int kh)) ((some q).map (.int kk))).run P w = .ok ((l.getD 0).toNat,q.toNat,q.toNat) w:=by
   have h3:q<=(cap:Int):=by omega
   have h4:0<=q:=by omega
   cases l with
   |none=>simp[Instr.sliceBounds,m8 h4 h3,m8 (P:=P) (w:=w) (y:=q.toNat) h4 (by omega)]
   |some lo=>
    simp at n1 n2;simp[Instr.sliceBounds,m8 h4 h3,m8 (P:=P) (w:=w) (y:=q.toNat) h4 (by omega),m8 (P:=P) (w:=w) (y:=q.toNat) n1 (by omega)]
  have hrr:=UV (lo:=(l.getD 0).toNat) (mx:=q.toNat) hr (by omega) (by omega) (ufa _) (by omega);refine⟨_,hrun _ _ _ hb,rfl,?_⟩;have hlen:((y.drop (l.getD 0).toNat).take (q-(l.getD 0)).toNat).length=q.toNat-(l.getD 0).toNat:=by simp; omega
  refine⟨_,by rw[hlen],?_⟩;rw[show(q-(l.getD 0)).toNat=q.toNat-(l.getD 0).toNat from by omega];exact hrr
def ze:{ps:List PT} -> {cs:List AC} -> {x:aq ps} -> {vs:List Value}->iJ ps cs=some x->bC P w F R (cs.map .c) vs->dX P w F ps x vs
 |[],[],_,[],_,_=>rfl
 |.d t::r,a::s,x,v::vs,h,hr=>by
  simp only[iJ] at h;split at h
  ·rename_i y z h1 h2;cases h;exact⟨v,vs,rfl,CN h1 hr.1,ze h2 hr.2⟩
  ·cases h
 |.ptr t::r,.sptr cs::s,x,v::vs,h,hr=>by
  simp only[iJ] at h;split at h
  ·rename_i y q z h1 h2;cases h;obtain⟨_,ad,e1,e2,e3⟩:=hr.1;exact⟨v,vs,rfl,⟨ad,e1,e2,(aD.dec t h1 e3).1⟩,ze h2 hr.2⟩
  ·cases h
 |.pfn ps rs::r,.sptr [.fv ps' rs' g]::s,x,v::vs,h,hr=>by
  simp only[iJ] at h;split at h<;>try trivial
  rename_i hp;split at h<;>try trivial
  rename_i hk;split at h<;>try trivial
  rename_i y h2;cases h;subst hp;subst hk;obtain⟨_,ad,e1,e2,⟨⟨u,e3,_,e4⟩,_⟩⟩:=hr.1;exact⟨v,vs,rfl,⟨ad,u,e1,e2,e3,e4⟩,ze h2 hr.2⟩
 |.pfn _ _::_,.sptr [.fv _ _ _]::_,_,[],_,hr=>hr.elim
 |.pk f::r,.sptr [.fn f' []]::s,x,v::vs,h,hr=>by
  simp only[iJ] at h;split at h<;>try trivial
  rename_i hf;split at h<;>try trivial
  rename_i y h2;cases h;subst hf;obtain⟨_,ad,e1,e2,⟨⟨u,e3,_,e4⟩,_⟩⟩:=hr.1;obtain⟨vs0,rfl,h3,_⟩:=e4;have h4:=Array.size_eq_zero_iff.mp h3;subst h4;exact⟨v,vs,rfl,⟨ad,e1,e2,e3⟩,ze h2 hr.2⟩
 |.pk _::_,.sptr [.fn _ []]::_,_,[],_,hr=>hr.elim
 |[],[],_,_::_,_,hr=>hr.elim
 |[],_::_,_,_,h,_=>by simp[iJ] at h
 |_::_,[],_,_,h,_=>by simp[iJ] at h
 |.d _::_,_::_,_,[],_,hr=>hr.elim
 |.ptr _::_,.sptr _::_,_,[],_,hr=>hr.elim
 |.fn _ _::_,_::_,_,_,h,_=>by simp[iJ] at h
 |.pf _ _::_,_::_,_,_,h,_=>by simp[iJ] at h
 |.ptr _::_,.dead::_,_,_,h,_ | .ptr _::_,.int _ _::_,_,_,h,_ | .ptr _::_,.bool _::_,_,_,h,_ | .ptr _::_,.str _::_,_,_,h,_ | .ptr _::_,.nil::_,_,_,h,_
 |.ptr _::_,.sl _ _::_,_,_,h,_ | .ptr _::_,.slx _ _::_,_,_,h,_ | .ptr _::_,.own _::_,_,_,h,_ | .ptr _::_,.ptr _ _::_,_,_,h,_ | .ptr _::_,.fn _ _::_,_,_,h,_ | .ptr _::_,.fv _ _ _::_,_,_,h,_ | .ptr _::_,.pv _ _ _ _::_,_,_,h,_ | .ptr _::_,.mp _::_,_,_,h,_ | .ptr _::_,.fs _ _::_,_,_,h,_=>by simp[iJ] at h
def qcc {t u:Ty} (h:t=u) {x:t.den} {v:Value} (hr:bq w F t x v):bq w F u (Ht h x) v:=by subst h; exact hr
def HO:{ps:List Ty} -> {cps:List PT} -> {caps:List AC} -> {f:ae ps->aq cps}->kJ ps cps caps=some f->(x:ae ps) -> {vs cvs:List Value}->eK w F ps x vs->bC P w F R (caps.map .c) cvs->dX P w F cps (f x) (vs++cvs)
 |[],cps,caps,f,h,x,vs,cvs,hx,hr=>by
  simp only[kJ] at h;split at h
  ·rename_i ys h1;cases h;cases hx;exact ze h1 hr
  ·cases h
 |t::r,.d t'::cps,caps,f,h,x,vs,cvs,hx,hr=>by
  simp only[kJ] at h;split at h
  ·rename_i ht;split at h
   ·rename_i g hg;cases h;obtain⟨v,vs',rfl,h1,h2⟩:=hx;exact⟨v,vs'++cvs,rfl,qcc ht h1,HO hg x.2 h2 hr⟩
   ·cases h
  ·cases h
 |_::_,[],_,_,h,_,_,_,_,_=>by simp[kJ] at h
 |_::_,.ptr _::_,_,_,h,_,_,_,_,_=>by simp[kJ] at h
 |_::_,.fn _ _::_,_,_,h,_,_,_,_,_=>by simp[kJ] at h
 |_::_,.pf _ _::_,_,_,h,_,_,_,_,_=>by simp[kJ] at h
 |_::_,.pfn _ _::_,_,_,h,_,_,_,_,_=>by simp[kJ] at h
 |_::_,.pk _::_,_,_,h,_,_,_,_,_=>by simp[kJ] at h
def Hs {caps:List AC} {vs:List Value} (hl:vs.length=caps.length) (h:aR P w F R caps (λj u=>vs[j]? = some u)):bC P w F R (caps.map .c) vs:=by
 induction caps generalizing vs with
 |nil=>cases vs with
  |nil=>trivial
  |cons _ _=>simp at hl
 |cons c r ih=>cases vs with
  |nil=>simp at hl
  |cons v vs=>
   obtain⟨⟨u,e1,e2,e3⟩,e4⟩:=h;simp at e1;subst e1;exact⟨⟨e2,e3⟩,ih (by simpa using hl) (by simpa using e4)⟩
def TD {rs rs':List Ty} (k:rs=rs') {y:ae rs} {e:Ending} {w1 w2:World} {F1:Nat->Prop} (h:fy w1 F1 rs y e w2):fy w1 F1 rs' (C7 k y) e w2:=by subst k; exact h
def qyw {ps ps' rs rs':List Ty} (h:ps=ps') (k:rs=rs') {g:ae ps->ae rs} {v:Value} (hr:jJ P w F ps rs g v):jJ P w F ps' rs' (yK h k g) v:=by subst h; subst k; exact hr
def dX.mono {w w':World} {F F':Nat->Prop} (hF:∀ b,F b->F' b) (hw:∀ b,F b->w'.heap[b]? = w.heap[b]?):{ps:List PT} -> {x:aq ps} -> {vs:List Value}->dX P w F ps x vs->dX P w' F' ps x vs
 |[],_,_,h=>h
 |p::_,_,_,⟨v,vs',h1,h2,h3⟩=>by
  refine⟨v,vs',h1,?_,dX.mono hF hw h3⟩;cases p with
  |d t=>exact bq.mono hF hw h2
  |ptr t=>
   obtain⟨ad,e1,e2,e3⟩:=h2;refine⟨ad,e1,hF _ e2,e3.mono hF hw λj u _ hu=>?_⟩;rw[<- hu];exact ubb (by rw[rY]; exact hw _ e2)
  |fn ps rs=>exact jJ.mono hF hw h2
  |pf ps rs=>exact lr.mono hF hw h2
  |pfn ps rs=>
   obtain⟨ad,u,e1,e2,e3,e4⟩:=h2;refine⟨ad,u,e1,hF _ e2,?_,jJ.mono hF hw e4⟩;rw[<- e3];exact ubb (by rw[rY]; exact hw _ e2)
  |pk f=>
   obtain⟨ad,e1,e2,e3⟩:=h2;refine⟨ad,e1,hF _ e2,?_⟩;rw[<- e3];exact ubb (by rw[rY]; exact hw _ e2)
def qfu (hΓ:hH P Γ) {ps rs:List Ty} {c:AC} {g:ae ps->ae rs} {n:List Prop} {v:Value} (h:HN Γ ps rs c=some (g,n)) (hn:aE n) (hr:bh P w F R c v) (_hR:∀ id u,R id u->True):jJ P w F ps rs g v:=by
 unfold HN at h;split at h<;>try trivial
 ·split at h<;>try trivial
  rename_i hp;split at h<;>try trivial
  rename_i hk;obtain⟨rfl,_⟩:=h;exact qyw hp hk hr
 ·rename_i f caps;split at h<;>try trivial
  rename_i ct hct;split at h<;>try trivial
  rename_i hk;split at h<;>try trivial
  rename_i mm hmm;cases h;obtain⟨vs,rfl,e1,e2⟩:=hr;obtain⟨s1,s2⟩:=hΓ.1 f ct hct;refine⟨f,vs,rfl,s1,λw1 F1 hf hb xs us hx=>?_⟩;have hwf:=hx.wf;have hc:=aR.mono (λb hb'=>(hf b hb').1) (λb hb'=>(hf b hb').2) (λ_ _ _=>uT) caps (g':=λj u=>vs.toList[j]? = some u) (λj u hu=>by simpa using hu) e2;have hps:=HO hmm xs hx (Hs (by simpa using e1) hc);have:=s2 w1 F1 (mm xs) (us++vs.toList) hb hps (hn xs hwf);have he:(us++vs.toList).toArray=us.toArray++vs:=by simp
  rw[he] at this;exact this.mono λe w2 hp=>TD hk hp
def qyx {ps ps' rs rs':List Ty} (h:ps=ps') (k:rs=rs') {g:ae ps->ae rs} {D:ae ps->Prop} {v:Value} (hr:lr P w F ps rs g D v):lr P w F ps' rs' (yK h k g) (O9 h D) v:=by subst h; subst k; exact hr
def qfv (hΓ:hH P Γ) {ps rs:List Ty} {c:AC} {x:(ae ps->ae rs)×(ae ps->Prop)} {v:Value} (h:HP Γ ps rs c=some x) (hr:bh P w F R c v):lr P w F ps rs x.1 x.2 v:=by
 unfold HP at h;split at h<;>try trivial
 ·split at h<;>try trivial
  rename_i hp;split at h<;>try trivial
  rename_i hk;cases h;exact qyx hp hk hr
 ·rename_i f caps;split at h<;>try trivial
  rename_i ct hct;split at h<;>try trivial
  rename_i hk;split at h<;>try trivial
  rename_i mm hmm;cases h;obtain⟨vs,rfl,e1,e2⟩:=hr;obtain⟨s1,s2⟩:=hΓ.1 f ct hct;refine⟨f,vs,rfl,s1,λw1 F1 hf hb xs us hd hx=>?_⟩;have hc:=aR.mono (λb hb'=>(hf b hb').1) (λb hb'=>(hf b hb').2) (λ_ _ _=>uT) caps (g':=λj u=>vs.toList[j]? = some u) (λj u hu=>by simpa using hu) e2;have hps:=HO hmm xs hx (Hs (by simpa using e1) hc);have:=s2 w1 F1 (mm xs) (us++vs.toList) hb hps hd;have he:(us++vs.toList).toArray=us.toArray++vs:=by simp
  rw[he] at this;exact this.mono λe w2 hp=>TD hk hp
def sy (hΓ:hH P Γ):{ps:List PT} -> {xs:List AV} -> {x:aq ps} -> {n:List Prop} -> {vs:List Value}->lD Γ ps xs=some (x,n)->aE n->bC P w F R xs vs->dX P w F ps x vs
 |[],[],_,_,[],_,_,_=>rfl
 |p::r,a::s,x,n,v::vs,h,hn,hr=>by
  simp only[lD] at h;split at h
  ·rename_i y n1 z n2 h1 h2;cases h;refine⟨v,vs,rfl,?_,sy hΓ h2 (lB.1 hn).2 hr.2⟩;unfold P6 at h1;split at h1
   ·split at h1<;>try trivial
    rename_i h3;obtain⟨rfl,_⟩:=h1;exact CN h3 hr.1
   ·split at h1<;>try trivial
    rename_i h3;obtain⟨rfl,_⟩:=h1;obtain⟨_,ad,e1,e2,e3⟩:=hr.1;exact⟨ad,e1,e2,(aD.dec _ h3 e3).1⟩
   ·exact qfu hΓ h1 (lB.1 hn).1 hr.1.2 (λ_ _ _=>uT)
   ·split at h1<;>try trivial
    rename_i h3;obtain⟨rfl,_⟩:=h1;exact qfv hΓ h3 hr.1.2
   ·cases h1
  ·cases h
 |[],[],_,_,_::_,_,_,hr=>hr.elim
 |_::_,_::_,_,_,[],_,_,hr=>hr.elim
 |[],_::_,_,_,_,h,_,_=>by simp[lD] at h
 |_::_,[],_,_,_,h,_,_=>by simp[lD] at h
def bC.append {xs ys:List AV} {us vs:List Value} (h:bC P w F R xs us) (k:bC P w F R ys vs):bC P w F R (xs++ys) (us++vs):=by
 induction xs generalizing us with
 |nil=>cases us with
  |nil=>exact k
  |cons _ _=>exact h.elim
 |cons x xs ih=>cases us with
  |nil=>exact h.elim
  |cons u us=>exact⟨h.1,ih h.2⟩
def Hq (hΓ:hH P Γ) {k:Int} {args:List AV} {vs:List Value} (hbd:∀ b,F b->b<w.heap.size) (ha:bC P w F R args vs):{es:List (Int×Nat)} -> {rs:List Ty} -> {y:ae rs} -> {n:List Prop} ->
  oN Γ k args es=some ⟨rs,y,n⟩->aE n->∃ f,iP (es.find? (λx=>x.1==k)) = .func (.func f) #[] #[]/\(∀ args w2,(callFunc f args).run P w2 = .ok (.enter f args) w2)/\Calls P f vs.toArray w (fy w F rs y)
 |[],_,_,_,h,_=>by simp[oN] at h
 |(i,f)::es,rs,y,n,h,hn=>by
  simp only[oN] at h;split at h<;>try trivial
  rename_i ct hct;split at h<;>try trivial
  rename_i x ns hd;obtain⟨s1,s2⟩:=hΓ.1 f ct hct;have hthis:k=i->aE (ns++ct.ok x)->∃ f',iP (((i,f)::es).find? (λx=>x.1==k)) = .func (.func f') #[] #[]/\(∀ args w2,(callFunc f' args).run P w2 = .ok (.enter f' args) w2)/\Calls P f' vs.toArray w (fy w F ct.rs (ct.f x)):=λhk hc=>by
   obtain⟨c1,c2⟩:=lB.1 hc;refine⟨f,by simp[hk,iP],s1,s2 w F x vs hbd (sy hΓ hd c1 ha) c2⟩
  split at h
  ·injection h with h
   cases h;obtain⟨c1,c2⟩:=jS.1 hn;exact hthis c1 c2
  ·split at h<;>try trivial
   rename_i es' _ rs' y' ms hr;split at h<;>try trivial
   rename_i hrs;cases h;subst hrs;obtain⟨c1,c2⟩:=jS.1 hn;by_cases hk:k=i
   ·obtain⟨f',e1,e2,e3⟩:=hthis hk (c1 hk);refine⟨f',e1,e2,?_⟩;have:(k==i)=true:=by simp[hk]
    rw[this];exact e3
   ·obtain⟨f',e1,e2,e3⟩:=Hq hΓ hbd ha hr (c2 hk);refine⟨f',?_,e2,?_⟩
    ·rw[<- e1];have:(i==k)=false:=by rw[ubu]; omega
     simp[this]
    ·have:(k==i)=false:=by rw[ubu]; exact hk
     rw[this];exact e3
def VV (hΓ:hH P Γ) {k:Int} {cs:List AC} {args:List AV} {vs:List Value} {b:Nat} {ety:TypeId} {arr:Array Value} (hg:w.heap[b]? = some (.cells arr ety (0,0))) (hs:arr.size=cs.length)
  (ho:∀ u∈arr,u.oneCell'=true) (hc:aR P w F R cs (λj u=>arr[j]? = some u)) (ha:bC P w F R args vs):{es:List (Int×Nat)} -> {T:Ty} -> {z:T.den} -> {n:List Prop} ->
  Bp Γ k cs args es=some ⟨T,z,n⟩->aE n->cs.length=T.size/\∃ f,iP (es.find? (λx=>x.1==k)) = .func (.func f) #[] #[]/\(∀ args w2,(callFunc f args).run P w2 = .ok (.enter f args) w2) /\
   Calls P f (Value.pointer (some ⟨b,0,none⟩)::vs).toArray w λen w'=>∃ (u:Value) (ns:List Value),en = .returned u/\ns.length=T.size/\w'=w.setRow b ns.toArray/\aD w F T z (λj u=>ns[j]? = some u)
 |[],_,_,_,h,_=>by simp[Bp] at h
 |(i,f)::es,T,z,n,h,hn=>by
  simp only[Bp] at h;split at h<;>try trivial
  rename_i T1 ps g hct;have s1:=hΓ.2 f _ hct;split at h<;>try trivial
  rename_i x y hd hv;have hlen:cs.length=T1.size:=by have:=vI T1 hd; simp at this; omega
  have hx:=(aD.dec T1 hd hc).1;have hy:=oO hv ha;have hcall:=s1.calls w F b ety arr x y vs hg (by omega) ho hx hy;split at h
  ·injection h with h
   cases h;have hk:k=i:=hn;exact⟨hlen,f,by simp[hk,iP],s1.enters,hcall⟩
  ·split at h<;>try trivial
   rename_i es' _ T' z' ms hr;split at h<;>try trivial
   rename_i hT;subst hT;cases h;by_cases hk:k=i
   ·refine⟨hlen,f,by simp[hk,iP],s1.enters,?_⟩;have:(k==i)=true:=by simp[hk]
    rw[this];exact hcall
   ·obtain⟨_,f',e1,e2,e3⟩:=VV hΓ hg hs ho hc ha hr (hn hk);refine⟨hlen,f',?_,e2,?_⟩
    ·rw[<- e1];have:(i==k)=false:=by rw[ubu]; omega
     simp[this]
    ·have:(k==i)=false:=by rw[ubu]; exact hk
     rw[this];exact e3
def qca (hΓ:hH P Γ) {x:AV} {args:List AV} {r:AV} {n:List Prop} {vx:Value} {vs:List Value} (h:Hr Γ x args=some (r,n)) (hn:aE n) (hbd:∀ b,F b->b<w.heap.size)
  (hx:aM P w F R x vx) (ha:bC P w F R args vs):∃ f caps,vx = .func (.func f) #[] caps/\(∀ args w2,(callFunc f args).run P w2 = .ok (.enter f args) w2) /\
   ∃ rs y,r=mU rs y/\Calls P f (vs.toArray++caps) w (fy w F rs y):=by
 unfold Hr at h;split at h<;>try trivial
 ·rename_i f caps;obtain⟨_,cv,rfl,e1,e2⟩:=hx;unfold O5 at h;split at h<;>try trivial
  rename_i ct hct;split at h<;>try trivial
  rename_i y n1 hd;cases h;obtain⟨s1,s2⟩:=hΓ.1 f ct hct;refine⟨f,cv,rfl,s1,ct.rs,ct.f y,rfl,?_⟩;have hps:=sy hΓ hd (lB.1 hn).1 (ha.append (Hs (vs:=cv.toList) (by simpa using e1) (by simpa using e2)));have:=s2 w F y (vs++cv.toList) hbd hps (lB.1 hn).2;have he:(vs++cv.toList).toArray=vs.toArray++cv:=by simp
  rw[he] at this;exact this
 ·rename_i ps rs g;split at h<;>try trivial
  rename_i y hd;cases h;have hf:=hx.2;obtain⟨f,caps,rfl,s1,s2⟩:=hf;exact⟨f,caps,rfl,s1,rs,g y,rfl,s2 w F (λb hb=>⟨hb,rfl⟩) hbd y vs (oO hd ha)⟩
 ·rename_i ps rs g D;split at h<;>try trivial
  rename_i y hd;cases h;have hf:=hx.2;obtain⟨f,caps,rfl,s1,s2⟩:=hf;exact⟨f,caps,rfl,s1,rs,g y,rfl,s2 w F (λb hb=>⟨hb,rfl⟩) hbd y vs hn (oO hd ha)⟩
 ·rename_i es k;split at h<;>try trivial
  rename_i rs y ns hd;cases h;have hv:=hx.2;simp only[bh] at hv;obtain⟨f,e1,e2,e3⟩:=Hq hΓ hbd ha hd hn;rw[e1] at hv;exact⟨f,#[],hv,e2,rs,y,rfl,by simpa using e3⟩
end
end Go.Ab

namespace Go.Ab
open Go Go.RowKit
section
variable {P:Program} {B:Nat} {o:Oper} {a:Act} {w w':World} {F F':Nat->Prop} {γ γ':Nat->Value} {M m:aY} {R:Nat->Value->Prop} {Γ:Gm}
def e8 {S:Sem Value} {u:Value} (he:execOp a.eval o=(do pure (.value (<- S)):Sem Next)) (hr:S.run P w = .ok u w'):(execOp a.eval o).run P w = .ok (.value u) w':=by
 rw[he];simp[hr]
def qxn {p:Bool} {x y r:AV} {u v:Value} (h:Aq p x y=some r) (hx:p=true->aM P w F R x u) (hy:p=false->aM P w F R y v):aM P w F R r (if p then u else v):=by
 unfold Aq at h;split at h<;>try trivial
 ·cases h;cases p
  ·exact⟨(hy rfl).1,(hy rfl).2⟩
  ·exact⟨(hx rfl).1,(hx rfl).2⟩
 ·split at h<;>try trivial
  rename_i hk;subst hk;cases h;cases p
  ·exact⟨(hy rfl).1,(hy rfl).2⟩
  ·exact⟨(hx rfl).1,(hx rfl).2⟩
def SD {k:IntKind}:{r:List AV} -> {x y:Int} -> {vs:List Value}->sW k x r=some y->inR k x->bC P w F R r vs->(vs.foldlM (m:=Sem) Builtin.min2 (.int k x)).run P w = .ok (.int k y) w/\inR k y
 |[],x,y,[],h,hx,_=>by
  simp only[sW,ucj] at h;subst h;exact⟨by simp,hx⟩
 |.c (.int k' z)::r,x,y,v::vs,h,hx,hr=>by
  simp only[sW] at h;split at h<;>try trivial
  rename_i hk;subst hk;obtain⟨⟨_,rfl,hz⟩,hr⟩:=hr;have hx':inR k (if z<x then z else x):=by split<;>assumption
  obtain⟨h1,h2⟩:=SD h hx' hr;refine⟨?_,h2⟩;simp[Builtin.min2,h1]
 |[],_,_,_::_,_,_,hr=>hr.elim
 |_::_,_,_,[],_,_,hr=>hr.elim
 |.dead::_,_,_,_::_,h,_,_ | .agg _::_,_,_,_::_,h,_,_ | .tup _::_,_,_,_::_,h,_,_ | .optr _ _ _ _::_,_,_,_::_,h,_,_ | .aptr _ _ _::_,_,_,_::_,h,_,_ | .maybe _ _ _::_,_,_,_::_,h,_,_=>by simp[sW] at h
 |.c .dead::_,_,_,_::_,h,_,_ | .c (.bool _)::_,_,_,_::_,h,_,_ | .c (.str _)::_,_,_,_::_,h,_,_ | .c .nil::_,_,_,_::_,h,_,_ | .c (.sl _ _)::_,_,_,_::_,h,_,_
 |.c (.slx _ _)::_,_,_,_::_,h,_,_ | .c (.own _)::_,_,_,_::_,h,_,_ | .c (.ptr _ _)::_,_,_,_::_,h,_,_ | .c (.sptr _)::_,_,_,_::_,h,_,_ | .c (.fn _ _)::_,_,_,_::_,h,_,_ | .c (.fv _ _ _)::_,_,_,_::_,h,_,_ | .c (.pv _ _ _ _)::_,_,_,_::_,h,_,_ | .c (.mp _)::_,_,_,_::_,h,_,_ | .c (.fs _ _)::_,_,_,_::_,h,_,_=>by simp[sW] at h
def SB {k:IntKind}:{r:List AV} -> {x y:Int} -> {vs:List Value}->sV k x r=some y->inR k x->bC P w F R r vs->(vs.foldlM (m:=Sem) Builtin.max2 (.int k x)).run P w = .ok (.int k y) w/\inR k y
 |[],x,y,[],h,hx,_=>by
  simp only[sV,ucj] at h;subst h;exact⟨by simp,hx⟩
 |.c (.int k' z)::r,x,y,v::vs,h,hx,hr=>by
  simp only[sV] at h;split at h<;>try trivial
  rename_i hk;subst hk;obtain⟨⟨_,rfl,hz⟩,hr⟩:=hr;have hx':inR k (if x<z then z else x):=by split<;>assumption
  obtain⟨h1,h2⟩:=SB h hx' hr;refine⟨?_,h2⟩;simp[Builtin.max2,h1]
 |[],_,_,_::_,_,_,hr=>hr.elim
 |_::_,_,_,[],_,_,hr=>hr.elim
 |.dead::_,_,_,_::_,h,_,_ | .agg _::_,_,_,_::_,h,_,_ | .tup _::_,_,_,_::_,h,_,_ | .optr _ _ _ _::_,_,_,_::_,h,_,_ | .aptr _ _ _::_,_,_,_::_,h,_,_ | .maybe _ _ _::_,_,_,_::_,h,_,_=>by simp[sV] at h
 |.c .dead::_,_,_,_::_,h,_,_ | .c (.bool _)::_,_,_,_::_,h,_,_ | .c (.str _)::_,_,_,_::_,h,_,_ | .c .nil::_,_,_,_::_,h,_,_ | .c (.sl _ _)::_,_,_,_::_,h,_,_
 |.c (.slx _ _)::_,_,_,_::_,h,_,_ | .c (.own _)::_,_,_,_::_,h,_,_ | .c (.ptr _ _)::_,_,_,_::_,h,_,_ | .c (.sptr _)::_,_,_,_::_,h,_,_ | .c (.fn _ _)::_,_,_,_::_,h,_,_ | .c (.fv _ _ _)::_,_,_,_::_,h,_,_ | .c (.pv _ _ _ _)::_,_,_,_::_,h,_,_ | .c (.mp _)::_,_,_,_::_,h,_,_ | .c (.fs _ _)::_,_,_,_::_,h,_,_=>by simp[sV] at h
def Fq:{u:List (Nat×Ob)} -> {m M:aY}->(∀ i y,m i=some y->M i=some y)->∀ i y,aK m u i=some y->aK M u i=some y
 |[],_,_,h=>h
 |(id,ob)::r,m,M,h=>Fq (u:=r) λi y hy=>by
  by_cases hi:i=id
  ·subst hi;rw[i5] at hy |-;exact hy
  ·rw[fu _ _ hi] at hy |-;exact h i y hy
def Rb {id:Nat} {e e2:TypeId} {cs cs' cs2:List AC} {u:List (Nat×Ob)} (hm:MemOK P B w F γ M) (hb:∀ b,F b->b<w.heap.size) (hsub:∀ i y,m i=some y->M i=some y) (hid:m id=some (.box e cs)) (h:ix m cs=some (cs',u)) (hid2:aK m u id=some (.box e2 cs2)) :
  ∃ F' b,γ id = .pointer (some ⟨b,0,none⟩)/\F' b/\Step B w F γ M w F' γ (aK M (u++[(id,.fbox cs')]))/\MemOK P B w F' γ (aK M (u++[(id,.fbox cs')])) /\
   aR P w F' (aA (aK M (u++[(id,.fbox cs')])) γ) cs' (λj u=>w.cell? ⟨b,j,none⟩=some u):=by
 obtain⟨b,arr,e1,e2',e3,e4,e5,e6⟩:=hm.ob id _ (hsub _ _ hid);obtain⟨F1,s1,m1,t1,l1,r1⟩:=AI hm hb (g6 hsub) h e6;have hM1:=Fq hsub _ _ hid2;obtain⟨b',arr',f1,f2,f3,f4,f5,f6⟩:=m1.ob id _ hM1;rw[e1] at f1;simp at f1;have hst:Step B w F1 γ (aK M u) w (λc=>F1 c\/c=b) γ (upd (aK M u) id (.fbox cs')):=
  ⟨λc h=>.inl h,λ_ _=>rfl,qN hM1 (by simp),λ_ _=>rfl,rfl,rfl,rfl,ufa _,λc h=>h.elim (s1.bd c) (λh=>by subst h; exact(uaf.1 e2').1),λc h=>h.elim .inl (λh=>.inr (by omega))⟩
 have hcells:aR P w (λc=>F1 c\/c=b) (aA (upd (aK M u) id (.fbox cs')) γ) cs' (λj u=>w.cell? ⟨b,j,none⟩=some u):=
  (hst.repCL r1).turn λj v _ hv=>by rw[yL e2']; exact hv
 have hmm:MemOK P B w (λc=>F1 c\/c=b) γ (upd (aK M u) id (.fbox cs')):=by
  refine m1.change hM1 (by simp) hst.hF hst.hw (λc h=>by simp[cQ] at h) (λc _ hne=>⟨rfl,λh=>h.elim (λh=>h) (λh=>absurd (by rw[e1,h]; rfl) hne)⟩) ?_;exact⟨b,e1,Or.inr rfl,hcells⟩
 refine⟨λc=>F1 c\/c=b,b,e1,Or.inr rfl,?_,?_,?_⟩
 ·rw[gY]; exact s1.trans hst
 ·rw[gY]; exact hmm
 ·rw[gY]; exact hcells
def EH:{xs:List AV} -> {cs:List AC} -> {u:List (Nat×Ob)} -> {m M:aY} -> {F:Nat->Prop} -> {vs:List Value}->MemOK P B w F γ M->(∀ b,F b->b<w.heap.size)->(∀ i y,m i=some y->M i=some y)->tH m xs=some (cs,u)->bC P w F (aA M γ) xs vs ->
  ∃ F',Step B w F γ M w F' γ (aK M u)/\MemOK P B w F' γ (aK M u)/\bC P w F' (aA (aK M u) γ) (cs.map .c) vs
 |[],cs,u,m,M,F,[],hm,hb,hs,h,hr=>by
  obtain⟨rfl,rfl⟩:=h;exact⟨F,Step.refl hb,hm,uT⟩
 |x::r,cs,u,m,M,F,v::vs,hm,hb,hs,h,hr=>by
  unfold tH at h;split at h
  ·rename_i heq; cases heq
  ·rename_i id r' heq;cases heq;split at h<;>try trivial
   ·rename_i e cs0 hid;split at h<;>try trivial
    rename_i cs' u1 hrs;split at h<;>try trivial
    rename_i e2 cs2 hid2;split at h<;>try trivial
    rename_i y v2 hk;cases h;obtain⟨F1,b,g1,g2,s1,m1,r1⟩:=Rb hm hb hs hid hrs hid2;obtain⟨F2,s2,m2,r2⟩:=EH m1 s1.bd (Fq hs) hk (Bu s1.hF s1.hw s1.hR hr.2);obtain⟨_,b',q1,rfl⟩:=hr.1;have hb':b'=b:=by
     unfold aA at q1;rw[hs _ _ hid] at q1;simp only[g1,ubr,ucj,Addr.mk.injEq,uft] at q1;exact q1
    subst hb';rw[gY];refine⟨F2,s1.trans s2,m2,⟨rfl,⟨b',0,none⟩,rfl,s2.hF _ g2,s2.repCL (r1.turn λj u _ hu=>?_)⟩,r2⟩;rw[jK,uew];exact hu
   ·rename_i cs0 hid;split at h<;>try trivial
    rename_i y v2 hk;cases h;obtain⟨b,g1,g2,r1⟩:=Ir hm (hs _ _ hid) hr.1.2;obtain⟨F2,s2,m2,r2⟩:=EH hm hb hs hk hr.2;subst g1;refine⟨F2,s2,m2,⟨rfl,⟨b,0,none⟩,rfl,s2.hF _ g2,s2.repCL (r1.turn λj u _ hu=>?_)⟩,r2⟩;rw[jK,uew];exact hu
  ·rename_i c r' _ heq;cases heq;split at h<;>try trivial
   rename_i y u1 hrs;split at h<;>try trivial
   rename_i z v2 hk;cases h;obtain⟨F1,s1,m1,t1,r1⟩:=EG hm hb (g6 hs) hrs hr.1.2;obtain⟨F2,s2,m2,r2⟩:=EH m1 s1.bd (Fq hs) hk (Bu s1.hF s1.hw s1.hR hr.2);rw[gY];exact⟨F2,s1.trans s2,m2,⟨hr.1.1,bh.mono s2.hF s2.hw s2.hR _ r1⟩,r2⟩
  ·cases h
 |[],_,_,_,_,_,_::_,_,_,_,_,hr=>hr.elim
 |_::_,_,_,_,_,_,[],_,_,_,_,hr=>hr.elim
def qcb {cs:List AC} {vs:List Value} (h:bC P w F R (cs.map .c) vs):vs.length=cs.length/\aR P w F R cs (λj u=>vs[j]? = some u):=by
 induction cs generalizing vs with
 |nil=>cases vs with
  |nil=>exact⟨rfl,uT⟩
  |cons _ _=>exact h.elim
 |cons c r ih=>cases vs with
  |nil=>exact h.elim
  |cons v vs=>
   obtain⟨h1,h2⟩:=ih h.2;exact⟨by simp[h1],⟨v,rfl,h.1.1,h.1.2⟩,by simpa using h2⟩
def cJ.take {t:Ty} {l:List t.den} {xs:List Value} (h:cJ w F t l xs) (i:Nat):cJ w F t (l.take i) (xs.take (i*t.size)):=by
 intro j x hj;rw[ub0] at hj;split at hj
 ·rename_i hji;refine(h j x hj).mono (λ_ h=>h) (λ_ _=>rfl) λm u hm hu=>?_;have:j*t.size+t.size<=i*t.size:=by rw[<- uev]; exact ubc _ hji
  rw[ub0,if_pos (by omega)];exact hu
 ·cases hj
def cJ.drop {t:Ty} {l:List t.den} {xs:List Value} (h:cJ w F t l xs) (i:Nat):cJ w F t (l.drop i) (xs.drop (i*t.size)):=by
 intro j x hj;rw[ubz] at hj;refine(h (i+j) x hj).mono (λ_ h=>h) (λ_ _=>rfl) λm u hm hu=>?_;rw[ubz,<- hu,ufc,uef]
def qz2 {ty:TypeId} {name:String} {f:FuncId} (h:DR P name ty=some f) (u:Value) (as:Array Value):(callMethod (.iface ty u) name as).run P w=(callFunc f (#[u]++as)).run P w:=by
 unfold DR at h
 split at h<;>try (cases h; done)
 rename_i i fs hi hu
 split at h<;>try (cases h; done)
 rename_i mm hmm
 split at h<;>try (cases h; done)
 rename_i f' hf
 split at h<;>try (cases h; done)
 rename_i hp
 simp at h
 subst h
 have hp':mm.path = #[]:=by simpa using hp
 have hm:(method (P.types.size+Made.depth-1+1) ty u name).run P w = .ok (f',u) w:=by
  simp[method,typeInfo,hi,hmm,hp',hf,follow,receiverAt,ud3 hu,Place.get]
 have hd:P.types.size+Made.depth-1+1=P.types.size+Made.depth:=by unfold Made.depth; omega
 rw[hd] at hm
 simp only[callMethod,uer,run_program,uck]
 rw[hm]
 simp
def JP {name:String} {k:Int}:{es fs:List (Int×Nat)} -> {p:Int×Nat}->zS P name es=some fs->fs.find? (λx=>x.1==k)=some p->∃ ty,dq es k=some ty/\DR P name ty=some p.2
 |[],fs,p,h,hf=>by
  simp only[zS,ucj] at h;subst h;cases hf
 |(k',ty)::es,fs,p,h,hf=>by
  simp only[zS] at h;split at h<;>try trivial
  rename_i f fs' h1 h2;cases h;cases hk:(k'==k)
  ·have hf':fs'.find? (λx=>x.1==k)=some p:=by simpa[hk] using hf
   obtain⟨ty',e1,e2⟩:=JP h2 hf';refine⟨ty',?_,e2⟩;unfold dq at e1 |-;simpa[hk] using e1
  ·have hp:(k',f)=p:=by simpa[hk] using hf
   subst hp;exact⟨ty,by simp[dq,hk],h1⟩
def O7 {k:Int} {args:List AV}:{es:List (Int×Nat)} -> {rs:List Ty} -> {y:ae rs} -> {n:List Prop}->oN Γ k args es=some ⟨rs,y,n⟩->aE n->∃ p,es.find? (λx=>x.1==k)=some p
 |[],_,_,_,h,_=>by simp[oN] at h
 |(i,f)::es,rs,y,n,h,hn=>by
  by_cases hk:k=i
  ·exact⟨(i,f),by simp[hk]⟩
  ·have hne:(i==k)=false:=by rw[ubu]; omega
   simp only[oN] at h;split at h<;>try trivial
   split at h<;>try trivial
   split at h
   ·injection h with h
    cases h;exact absurd (jS.1 hn).1 hk
   ·split at h<;>try trivial
    rename_i es' _ rs' y' ms hr;split at h<;>try trivial
    cases h;obtain⟨c1,c2⟩:=jS.1 hn;obtain⟨p,hp⟩:=O7 hr (c2 hk);exact⟨p,by simpa[hne] using hp⟩
def qoa {t:TypeId} (h:zV P t=true):∃ ms,P.underlying t=some (.interface ms):=by
 unfold zV at h;split at h
 ·rename_i ms hms;exact⟨ms,hms⟩
 ·cases h
def qob {d:Nat} {t ty:TypeId} {u:Value} {ms:Array (String×TypeId)} (hu:P.underlying t=some (.interface ms)):(Op.equalIn (d+1) t (.iface ty u) .nilIface).run P w = .ok false w:=by
 simp[Op.equalIn,ud3 hu]
def qoc {d:Nat} {t:TypeId} {ms:Array (String×TypeId)} (hu:P.underlying t=some (.interface ms)):(Op.equalIn (d+1) t .nilIface .nilIface).run P w = .ok true w:=by
 simp[Op.equalIn,ud3 hu]
def JQ {es:List (Int×Nat)} {t:Ty} {x:Int×t.den} {v:Value} (h:bh P w F R (.ic es t x) v):(∃ ty u,dq es x.1=some ty/\v = .iface ty u/\bq w F t x.2 u)\/(dq es x.1=none/\v = .nilIface):=by
 rcases h with ⟨ty,u,h1,h2,h3,h4,h5⟩|⟨h1,h2⟩
 ·exact .inl ⟨ty,u,h1,h2.symm,h3,h4,h5⟩
 ·exact .inr ⟨h1,h2.symm⟩
def Ek {B B':Nat} {e:TypeId} {size n:Nat} {v:Value} {xs:List Value} (h:w.ownsRow B e size v n xs) (hb:∀ g,v.ownBlock=some g->B'<=g):w.ownsRow B' e size v n xs:=by
 refine⟨h.1,h.2.imp id ?_⟩;rintro⟨g,cap,cur,rfl,_,rest⟩;exact⟨g,cap,cur,rfl,hb g rfl,rest⟩
def qw5 {a b:Nat} {e1 e2:TypeId} {t1 t2:Ty} {l:List t1.den} {x:List t2.den} (hm:MemOK P B w F γ M) (hab:a≠b) (h1:M a=some (.arr e1 t1 l)) (h2:M b=some (.arr e2 t2 x)) :
  ∀ g,(γ b).ownBlock=some g->(γ a).ownBlock≠some g:=λg hg=>hm.apart b a _ _ g (λe=>hab e.symm) h2 h1 (by simpa[cQ] using hg)
def qzr {f:FuncId} {r:Row} {d:Nat} {args:List AV} {vs:List Value} {e:Eff} (hr0:BF P f r) (hm:MemOK P B w F γ M) (hb:∀ b,F b->b<w.heap.size) (hB:B<=w.heap.size) (hsub:∀ i y,m i=some y->M i=some y) (hd:m d=none->M d=none)
  (h:Lo r d args m=some e) (hn:aE e.need) (hr:bC P w F (aA M γ) args vs) :
  (∀ as w,(callFunc f as).run P w = .ok (.enter f as) w)/\Calls P f vs.toArray w λen w'=>∃ u γ',en = .returned u/\Step B w F γ M w' F γ' (aK M e.wr)/\MemOK P B w' F γ' (aK M e.wr)/\aM P w' F (aA (aK M e.wr) γ') e.v u:=by
 unfold Lo at h;split at h<;>try trivial
 ·rename_i e0 T bytes a hmd;split at h<;>try trivial
  rename_i t1 l hl;split at h<;>try trivial
  rename_i h1;subst h1;cases h
  match vs,hr with
  |[v1],⟨⟨_,hv1⟩,_⟩=>
   obtain⟨A,c,xs,rfl,hc,hA,hxl,hxr,hxc⟩:=S3 hm hsub hl hv1;refine⟨hr0.enters,(hr0.calls w l.length c A xs hc (λe=>by rw[hA e]; rfl) hxl hxc (AH hxr hxl) hn.1 hn.2).mono λen w2 hp=>?_⟩;obtain⟨v',rfl,hgr,hown⟩:=hp;have hFb:=λb hb'=>hgr.block b (hb b hb') (by simp);have hlow:=Ek hown λg hg=>uen hB (hown.lt g hg).1;obtain⟨s1,m1⟩:=wz hm hb hB (hd hmd) hgr hlow (λg hg=>(hown.lt g hg).1) (cJ.mono (λ_ h=>h) hFb hxr);exact⟨v',_,rfl,s1,m1,ny (wD hown)⟩
 ·rename_i e0 T bytes a i b hmd;split at h<;>try trivial
  rename_i e1 t1 l e2 t2 x hma hmb;split at h<;>try trivial
  rename_i h1;subst h1;split at h<;>try trivial
  rename_i h2;subst h2;split at h<;>try trivial
  rename_i he;obtain⟨rfl,rfl,hab⟩:=he;cases h;obtain⟨⟨h0,h0'⟩,hm1,h63,hby⟩:=hn
  match vs,hr with
  |[v1,v2,v3],⟨⟨_,hv1⟩,⟨_,hv2⟩,⟨_,hv3⟩,_⟩=>
   have hMa:=hsub _ _ hma;have hMb:=hsub _ _ hmb;have g1:=kd hMa (by simp) hv1;have g3:=kd hMb (by simp) hv3;have g2:=hv2.1;subst g1 g3 g2;obtain⟨j,rfl⟩:∃ j:Nat,i=j:=⟨i.toNat,by omega⟩;obtain⟨xs,q1,q2,q3,q4⟩:=hm.ob a _ hMa;obtain⟨ns,r1,r2,r3,r4⟩:=hm.ob b _ hMb;have r1':=r1;rw[hm1] at r1';refine⟨hr0.enters,(hr0.calls w B l.length j (γ a) (γ b) xs ns hB q1 r1' (qw5 hm hab hMa hMb) (by omega) q4 r4 h63 hby).mono λen w2 hp=>?_⟩;obtain⟨v',rfl,hgr,hown,hbl⟩:=hp;have hFb:=λb hb'=>hgr.block b (hb b hb') (λhe=>q2 b he.symm hb');have hrows:cJ w2 F t2 (jx (j:Int) (dw rfl l) (dw rfl x)) (xs.take (j*t2.size)++ns++xs.drop (j*t2.size)):=by
    have hc:jx (j:Int) (dw (rfl:t2=t2) l) (dw (rfl:t2=t2) x)=l.take j++x++l.drop j:=rfl;rw[hc];have hlt:(xs.take (j*t2.size)).length=(l.take j).length*t2.size:=by
     rw[uc3,uc3,q1.1,udn (show j<=l.length by omega),udn (ubc _ (show j<=l.length by omega))]
    refine cJ.mono (λ_ h=>h) hFb (cJ.append (cJ.append (q3.take j) hlt r3) ?_ (q3.drop j));rw[ub4,ub4,hlt,r1.1,ufc]
   have hlen:(jx (j:Int) (dw (rfl:t2=t2) l) (dw (rfl:t2=t2) x)).length=l.length+1:=by
    show(l.take j++x++l.drop j).length=_;simp;omega
   rw[<- hlen] at hown;obtain⟨s1,m1⟩:=DU hm hb hB hMa (hd hmd) hgr hown (hbl.elim .inl (λh=>.inr (.inl h))) hrows;exact⟨v',_,rfl,s1,m1,ny (wD hown)⟩
end
end Go.Ab

namespace Go.Ab
open Go Go.RowKit
section
variable {P:Program} {B:Nat} {o:Oper} {a:Act} {w w':World} {F F':Nat->Prop} {γ γ':Nat->Value} {M m:aY} {R:Nat->Value->Prop} {Γ:Gm}
def WA {idx:List Nat}:{xs:List AV} -> {vs:List Value}->bC P w F R xs vs->∀ (q i:Nat) (x:AV) (v:Nat×Value),(idx.zip xs)[q]? = some (i,x)->(idx.zip vs)[q]? = some v->v.1=i/\aM P w F R x v.2:=by
 induction idx with
 |nil=>intro xs vs _ q i x v h; simp at h
 |cons k idx ih=>
  intro xs vs hr q i x v h1 h2;cases xs with
  |nil=>simp at h1
  |cons y xs=>cases vs with
   |nil=>exact hr.elim
   |cons u vs=>cases q with
    |zero=>
     simp at h1 h2;obtain⟨rfl,rfl⟩:=h1;subst h2;exact⟨rfl,hr.1⟩
    |succ q=>exact ih hr.2 q i x v (by simpa using h1) (by simpa using h2)
def iB (P:Program) (w:World) (F:Nat->Prop) (R:Nat->Value->Prop) (tm:Tmp->Value):AV->Value->Prop
 |.maybe g want v,u=>tm g = .bool want->aM P w F R v u
 |v,u=>aM P w F R v u
def pR (P:Program) (w:World) (F:Nat->Prop) (R:Nat->Value->Prop) (tm:Tmp->Value):List AV->List Value->Prop
 |[],[]=>True
 |a::r,v::s=>iB P w F R tm a v/\pR P w F R tm r s
 |_,_=>False
def iB.plain {tm:Tmp->Value} {x:AV} {v:Value} (h:iB P w F R tm x v) (hn:iS x=true):aM P w F R x v:=by
 cases x<;>first|exact h|simp[iS] at hn
def pR.plain {tm:Tmp->Value}:{xs:List AV} -> {vs:List Value}->pR P w F R tm xs vs->xs.all iS=true->bC P w F R xs vs
 |[],[],_,_=>trivial
 |x::r,v::s,h,hn=>by
  simp only[ueh,uc9] at hn;exact⟨h.1.plain hn.1,pR.plain h.2 hn.2⟩
 |[],_::_,h,_=>h.elim
 |_::_,[],h,_=>h.elim
def U1 {d:Nat} {c x:AC} {u:List (Nat×Ob)} (hd:m d=none) (h:nY m c=some (x,u)) (M:aY):aK M u d=M d:=by
 unfold nY at h;split at h
 ·rename_i id;split at h<;>try trivial
  ·rename_i hid;obtain⟨_,rfl⟩:=h;exact fu _ _ (λe=>by subst e; rw[hd] at hid; cases hid)
  ·simp at h;obtain⟨_,rfl⟩:=h;rfl
 ·simp at h;obtain⟨_,rfl⟩:=h;rfl
def U2 {d:Nat} (hd:m d=none):{cs xs:List AC} -> {u:List (Nat×Ob)}->ix m cs=some (xs,u)->∀ M:aY,aK M u d=M d
 |[],xs,u,h,M=>by
  obtain⟨_,rfl⟩:=h;rfl
 |c::r,xs,u,h,M=>by
  simp only[ix] at h;split at h
  ·rename_i h1 h2;obtain⟨_,rfl⟩:=h;rw[gY,U2 hd h2,U1 hd h1]
  ·cases h
def qzw {d:Nat} {x y:AV} {u:List (Nat×Ob)} (hd:m d=none) (h:qQ m x=some (y,u)) (M:aY):aK M u d=M d:=by
 unfold qQ at h;split at h<;>try trivial
 ·split at h<;>try trivial
  rename_i h1;obtain⟨_,rfl⟩:=h;exact U1 hd h1 M
 ·split at h<;>try trivial
  rename_i h1;obtain⟨_,rfl⟩:=h;exact U2 hd h1 M
def U0 {d:Nat} (hd:m d=none):{cs xs:List AV} -> {u:List (Nat×Ob)}->eF m cs=some (xs,u)->∀ M:aY,aK M u d=M d
 |[],xs,u,h,M=>by
  obtain⟨_,rfl⟩:=h;rfl
 |c::r,xs,u,h,M=>by
  simp only[eF] at h;split at h
  ·rename_i h1 h2;obtain⟨_,rfl⟩:=h;rw[gY,U0 hd h2,qzw hd h1]
  ·cases h
def qri {c:AC} {tt:Ty} {l:List tt.den} {v:Value} (h:Kg c=some ⟨tt,l⟩) (hr:bh P w F R c v):∃ A cap,v = .slice A l.length cap/\aD w F (.sl tt) l (λ_ u=>u=v):=by
 unfold Kg at h;split at h<;>try trivial
 ·cases h;obtain⟨A,c,h1,_⟩:=id hr;exact⟨A,c,h1.symm,hr⟩
 ·cases h;obtain⟨A,h1,hr⟩:=hr;exact⟨A,_,h1,hr⟩
def K3 {x:Option Operand} {l:Option Int} {r r':List AV} {us:List Value} (h:wA x.isSome r=some (l,r')) (hr:bC P w F R r (x.toList.map a.eval++us)) :
  (∃ k:IntKind,x.map a.eval=l.map (.int k))/\bC P w F R r' us:=by
 rcases qv8 h hr with ⟨h1,rfl,rfl⟩|⟨h1,k,n,v,vs',rfl,h2,h3,h4⟩
 ·cases x with
  |none=>exact⟨⟨.i64,rfl⟩,by simpa using hr⟩
  |some x=>simp at h1
 ·cases x with
  |none=>simp at h1
  |some x=>
   obtain⟨rfl,rfl⟩:=h2;exact⟨⟨k,by simp[h3]⟩,h4⟩
def qee {B d:Nat} {γ:Nat->Value} {m M:aY} {t:TypeId} {lo hi mx:Bool} {x:AV} {r:List AV} {e:Eff} {vx:Value} {vs:List Value} (hm:MemOK P B w F γ M) (hb:∀ b,F b->b<w.heap.size) (hB:B<=w.heap.size)
  (hsub:∀ i y,m i=some y->M i=some y) (hd:m d=none->M d=none) (h:H7 P d t lo hi mx x r m=some e) (hn:aE e.need) (hx:aM P w F (aA M γ) x vx) (hr:bC P w F (aA M γ) r vs) :
  lo=false/\hi=true/\mx=false/\∃ vh u γ',vs=[vh]/\(Instr.sliceAt t vx none (some vh) none).run P w = .ok u w/\Step B w F γ M w F γ' (aK M e.wr)/\MemOK P B w F γ' (aK M e.wr)/\aM P w F (aA (aK M e.wr) γ') e.v u:=by
 unfold H7 at h;split at h<;>try trivial
 rename_i id k q;split at h<;>try trivial
 rename_i el ety tt l ht hid hmd;split at h<;>try trivial
 rename_i hc;cases h;obtain⟨n1,n2⟩:0<=q/\q<=l.length:=hn;obtain⟨ti,hti⟩:=uaq.1 hc.1;cases vs with
 |nil=>exact hr.elim
 |cons vh vs=>
  cases vs with
  |cons _ _=>exact hr.2.elim
  |nil=>
   obtain⟨⟨_,rfl,_⟩,_⟩:=hr;have hM:=hsub _ _ hid;have hMd:=hd hmd;have hv:=kd hM (by simp) hx.2;subst hv;obtain⟨xs,q1,q2,q3,q4⟩:=hm.ob id _ hM;have hlen:(l.take q.toNat).length=q.toNat:=by simp; omega
   have hrowl:=q1.1;have hle:q.toNat*tt.size<=l.length*tt.size:=ubc _ (by omega);have hrows:cJ w F tt (l.take q.toNat) (xs.take (q.toNat*tt.size)):=λi y hi=>by
    have hi':l[i]? = some y:=by
     rw[ub0] at hi;split at hi
     ·exact hi
     ·cases hi
    have hiq:i<q.toNat:=by
     rw[ub0] at hi;split at hi
     ·assumption
     ·cases hi
    refine(q3 i y hi').mono (λ_ h=>h) (λ_ _=>rfl) (λj u hj hu=>?_);have:i*tt.size+j<q.toNat*tt.size:=by
     have:(i+1)*tt.size<=q.toNat*tt.size:=ubc _ hiq;rw[ufc] at this;omega
    rw[ub0,if_pos this];exact hu
   refine⟨rfl,rfl,rfl,.int k q,?_⟩;rcases q1.2 with ⟨hnil,hz⟩|⟨g,cap,cur,hsl,hg,hcur,hcap,hmax,hsz,htake⟩
   ·
    have hq0:q.toNat=0:=by omega
    have hrun:(Instr.sliceAt t (γ id) none (some (.int k q)) none).run P w = .ok (.slice none 0 0) w:=by
     rw[hnil];have hb':(Instr.sliceBounds true 0 0 none (some (.int k q)) none).run P w = .ok (0,0,0) w:=by
      simp[Instr.sliceBounds,m8 (y:=0) n1 (by omega),hq0]
     simp[Instr.sliceAt,Instr.slice,ud3 ht,hb',iy hti]
    obtain⟨s1,s2⟩:=DU hm hb hB hM hMd (ub6 _ _) (by rw[hlen,hq0]; exact ucq w B ety tt.size) (.inr (.inr rfl))
     (λi y hi=>by
      rw[hq0] at hi;simp at hi)
    exact⟨_,_,rfl,hrun,s1,s2,ny rfl⟩
   ·have hrun:(Instr.sliceAt t (γ id) none (some (.int k q)) none).run P w = .ok (.slice (some ⟨g,0,none⟩) q.toNat cap) w:=by
     rw[hsl];have hb':(Instr.sliceBounds true l.length cap none (some (.int k q)) none).run P w = .ok (0,q.toNat,cap) w:=by
      simp[Instr.sliceBounds,m8 (y:=cap) n1 (by omega)]
     simp only[Instr.sliceAt,Instr.slice,ud3 ht,hb',iy hti,uer,Result.andThen];simp[Addr.add]
    obtain⟨s1,s2⟩:=DU hm hb hB hM hMd (ub6 _ _)
     (by
      rw[hlen];refine⟨by rw[uc3,hrowl]; omega,.inr ⟨g,cap,cur,rfl,hg,hcur,by omega,hmax,hsz,?_⟩⟩;rw[<- htake,ud6];congr 1;omega)
     (.inl (by rw[hsl]; rfl)) hrows
    exact⟨_,_,rfl,hrun,s1,s2,ny rfl⟩
def S5 {R:Nat->Value->Prop}:{vs:List AV} -> {caps:List AC} -> {u:List (Nat×Ob)} -> {us:List Value}->lR vs=some (caps,u)->bC P w F R vs us->u=[]/\bC P w F R (caps.map .c) us
 |[],_,_,us,h,hr=>by
  obtain⟨rfl,rfl⟩:=h;exact⟨rfl,hr⟩
 |.c a::r,caps,u,[],h,hr=>hr.elim
 |.c a::r,caps,u,v::us,h,hr=>by
  simp only[lR] at h;split at h<;>try trivial
  rename_i y _ hy;cases h;exact⟨rfl,hr.1,(S5 hy hr.2).2⟩
 |.dead::_,_,_,_,h,_=>by simp[lR] at h
 |.agg _::_,_,_,_,h,_=>by simp[lR] at h
 |.tup _::_,_,_,_,h,_=>by simp[lR] at h
 |.optr _ _ _ _::_,_,_,_,h,_=>by simp[lR] at h
 |.aptr _ _ _::_,_,_,_,h,_=>by simp[lR] at h
 |.maybe _ _ _::_,_,_,_,h,_=>by simp[lR] at h
def UZ {tt:Ty}:(n:Nat) -> {cs:List AC} -> {l:List tt.den} -> {g:Nat->Value->Prop}->tL.splitN tt n cs=some l->aR P w F R cs g ->
  l.length=n/\∀ (i:Nat) (x:tt.den),l[i]? = some x->aD w F tt x (λj u=>g (i*tt.size+j) u)
 |0,cs,l,g,h,_=>by
  cases cs with
  |nil=>
   simp only[tL.splitN,ucj] at h;subst h;exact⟨rfl,λi x hx=>by simp at hx⟩
  |cons _ _=>simp[tL.splitN] at h
 |n+1,cs,l,g,h,hr=>by
  simp only[tL.splitN] at h;split at h<;>try trivial
  rename_i x hx;split at h<;>try trivial
  rename_i l' hl;cases h;obtain⟨h1,h2⟩:=UZ n hl (hr.drop_ tt.size);refine⟨by simp[h1],λi y hy=>?_⟩;cases i with
  |zero=>
   simp at hy;subst hy;have:=(aD.dec tt hx (hr.take_ tt.size)).1;simpa using this
  |succ i=>
   have:=h2 i y (by simpa using hy);have e:∀ j,tt.size+(i*tt.size+j)=(i+1)*tt.size+j:=λj=>by rw[ufc]; omega
   simpa only[e] using this
def zb4 {t:TypeId} {x:AV} {e:Eff} {v:Value} (hm:MemOK P B w F γ M) (hb:∀ b,F b->b<w.heap.size) (hsub:∀ i y,m i=some y->M i=some y) (h:tL P t x m=some e) (hr:aM P w F (aA M γ) x v) :
  ∃ u F',(Instr.sliceAt t v none none none).run P w = .ok u w/\Step B w F γ M w F' γ (aK M e.wr)/\MemOK P B w F' γ (aK M e.wr)/\aM P w F' (aA (aK M e.wr) γ) e.v u:=by
 unfold tL at h;split at h<;>try trivial
 rename_i n el id off ht;split at h<;>try trivial
 rename_i i tt bt cs hi htt hid;split at h<;>try trivial
 rename_i cs' hrs;split at h<;>try trivial
 rename_i bf hseg;split at h<;>try trivial
 rename_i l hl;split at h<;>try trivial
 rename_i hc;cases h;obtain⟨F1,b,g1,g2,s1,m1,r1⟩:=Rb hm hb hsub hid hrs hid;obtain⟨b',arr,q1,hv,q3,_,_,_,_⟩:=oD hm (hsub _ _ hid) hr.2;have hbb:b'=b:=by rw[g1] at q1; cases q1; rfl
 subst hbb;subst hv;obtain⟨d1,d2⟩:=UZ n hl (wg hseg r1).2;have hsz:=iy (w:=w) hi;refine⟨.slice (some ⟨b',off,none⟩) n n,F1,?_,s1,m1,rfl,?_⟩
 ·simp only[Instr.sliceAt,uer,ud3 ht,uck,Instr.sureAddr,uet,Instr.sliceBounds,hsz,Nat.zero_mul];have:(⟨b',off,none⟩:Addr).add 0=⟨b',off,none⟩:=by simp[Addr.add]
  simp[this]
 ·refine⟨some ⟨b',off,none⟩,n,by rw[d1],by rw[d1]; exact ufa _,by unfold maxLen; omega,λk x hx=>⟨⟨b',off,none⟩,rfl,g2,?_⟩⟩;have:=d2 k x hx;refine this.mono (λ_ h=>h) (λ_ _=>rfl) λj u _ hu=>?_;rw[jK];exact hu
def I5 {n:Int}:(arr:List MapEntry)->(es:List (Int×Nat))->(i:Nat)->arr.map (λe=>(e.key,e.val))=es.map (λx=>(Value.int .i64 x.1,Value.func (.func x.2) #[] #[])) ->
  ∃ j,Instr.findNow (.int .i64) (.int .i64 n) arr i=some ((es.find? (λx=>x.1==n)).map λx=>(j,Value.func (.func x.2) #[] #[]))
 |[],[],_,_=>⟨0,rfl⟩
 |[],_::_,_,h=>by simp at h
 |_::_,[],_,h=>by simp at h
 |e::arr,(k,f)::es,i,h=>by
  simp at h;obtain⟨⟨h1,h2⟩,h3⟩:=h;simp only[Instr.findNow,h1,Instr.sameNow];by_cases hk:n=k
  ·subst hk;exact⟨i,by simp[h2]⟩
  ·obtain⟨j,hj⟩:=I5 (n:=n) arr es (i+1) h3;refine⟨j,?_⟩;have e1:(n==k)=false:=by rw[ubu]; exact hk
   have e2:(k==n)=false:=by rw[ubu]; omega
   simp[e1,e2,hj]
def OE {kt:TypeId} (hk:P.underlying kt=some (.int .i64)) (b:Bool) (d:Nat) (n:Int):(Instr.checkKey b (d+1) kt (.int .i64 n)).run P w = .ok () w:=by
 simp[Instr.checkKey,ud3 hk]
def qrj {t kt et:TypeId} {arr:Array MapEntry} {ck r:Nat} {es:List (Int×Nat)} (ht:P.underlying t=some (.map kt et)) (hk:P.underlying kt=some (.int .i64)) (hz:(zeroValue et).run P w = .ok .nilFunc w)
  (hr:w.heap[r]? = some (.map arr ck)) (he:arr.toList.map (λe=>(e.key,e.val))=es.map (λx=>(Value.int .i64 x.1,Value.func (.func x.2) #[] #[]))) (n:Int) :
  (Instr.lookup t (.map (some r)) (.int .i64 n) true).run P w = .ok (.tuple #[iP (es.find? (λx=>x.1==n)),.bool (es.find? (λx=>x.1==n)).isSome]) w:=by
 obtain⟨j,hj⟩:=I5 arr.toList es 0 he;have hck:(Instr.checkKey arr.isEmpty 10000 kt (.int .i64 n)).run P w = .ok () w:=OE hk arr.isEmpty 9999 n;have hob:(getObj r).run P w = .ok (.map arr ck) w:=by simp[getObj,Sem.run,hr]
 cases hf:es.find? (λx=>x.1==n) with
 |none=>
  rw[hf] at hj;simp[Instr.lookup,ud3 ht,hob,hck,Instr.findKey,ud3 hk,hj,hz,iP]
 |some x=>
  rw[hf] at hj;simp[Instr.lookup,ud3 ht,hob,hck,Instr.findKey,ud3 hk,hj,iP]
set_option maxHeartbeats 4000000 in
def qdn (hΓ:hH P Γ) {d:Nat} {op:Op} {vs:List AV} {e:Eff} (ho:o.op=op) (hm:MemOK P B w F γ M) (hb:∀ b,F b->b<w.heap.size) (hB:B<=w.heap.size)
  (hsub:∀ i y,m i=some y->M i=some y) (hd:m d=none->M d=none) (hc:H3 P Γ d op vs m=some e) (hn:aE e.need)
  (hr:bC P w F (aA M γ) vs (op.operands.toList.map a.eval)):BE P B o a w F γ M e.v e.wr:=by
 unfold H3 at hc;split at hc
 ·
  rename_i x0 x;cases hc;exact eE hm hb (by unfold execOp; rw[ho]; rfl) hr.1
 ·
  rename_i x0 x;cases hc;exact eE hm hb (by unfold execOp; rw[ho]; rfl) hr.1
 ·
  rename_i el;split at hc<;>try trivial
  rename_i z hz hmd;split at hc<;>try trivial
  rename_i cs hcs;cases hc;obtain⟨z1,z2,_⟩:=vA hcs (BS (P:=P) (w:=w) (F:=F) (R:=aA M γ) z);obtain⟨s1,s2⟩:=SJ (ty:=el) hm hb hB (hd hmd) z1 z2;have hzv:(zeroValue el).run P w = .ok z w:=by
   cases hi:P.info? el with
   |none=>simp[hi] at hz
   |some i=>simp[hi] at hz; simp[zeroValue,typeInfo,hi,hz]
  refine nx (e8 (S:=Instr.alloc el true (.tuple #[])) (u:=.pointer (some ⟨w.heap.size,0,none⟩)) (w':=w.alloc (.cells z.cells el)) (by unfold execOp; rw[ho]) ?_) s1 s2 TH;simp[Instr.alloc,hzv,newVar,newRow,newObj,Sem.run]
 ·
  rename_i el x0 x;split at hc<;>try trivial
  rename_i cs hcs hmd;cases hc;obtain⟨z1,z2,_⟩:=vA hcs hr.1;obtain⟨s1,s2⟩:=SJ (ty:=el) hm hb hB (hd hmd) z1 z2;refine nx (e8 (S:=Instr.box el (a.eval x0)) (u:=.pointer (some ⟨w.heap.size,0,none⟩)) (w':=w.alloc (.cells (a.eval x0).cells el)) (by unfold execOp; rw[ho]) ?_) s1 s2 TH;simp[Instr.box,newVar,newRow,newObj,Sem.run]
 ·
  rename_i xs t ps;split at hc<;>try trivial
  rename_i v hv;cases hc;have hops:(Op.build t ps).operands.toList.map a.eval=ps.toList.map (λp=>a.eval p.2):=by simp[Op.operands]
  rw[hops] at hr;have hz:=WA (idx:=ps.toList.map (·.1)) hr;have he:((ps.toList.map (·.1)).zip (ps.toList.map λp=>a.eval p.2))=ps.toList.map λp=>(p.1,a.eval p.2):=by
   rw[List.zip_map']
  rw[he] at hz;have hlen:=hr.length;obtain⟨u,h1,h2⟩:=qb1 (ps:=ps.map λp=>(p.1,a.eval p.2)) hv (by simp at hlen |-; omega) (λk i x v h1 h2=>hz k i x v h1 (by simpa using h2));refine eE hm hb (e8 (S:=Instr.build t (ps.map λp=>(p.1,a.eval p.2))) ?_ h1) h2;unfold execOp; rw[ho]
 ·
  rename_i xs t n ps;split at hc<;>try trivial
  rename_i el ht hmd;split at hc<;>try trivial
  rename_i i tt xs' u hi htt hrs;split at hc<;>try trivial
  rename_i hcond;obtain⟨c1,c2,c3,c4,c5⟩:=hcond;obtain⟨z,hz,hzs⟩:∃ z,i.zero=some z/\z.cells.size=tt.size:=by
   cases hz:i.zero with
   |none=>simp[hz] at c5
   |some z=>exact⟨z,rfl,by simpa[hz] using c5⟩
  split at hc<;>try trivial
  rename_i l hl;split at hc<;>try trivial
  rename_i hln;cases hc;have hops:(Op.buildSlice t n ps).operands.toList.map a.eval=ps.toList.map (λp=>a.eval p.2):=by simp[Op.operands]
  rw[hops] at hr;obtain⟨F1,s1,m1,t1,r1⟩:=ko hm hb (g6 hsub) hrs hr;have hz':=WA (idx:=ps.toList.map (·.1)) r1;have he:((ps.toList.map (·.1)).zip (ps.toList.map λp=>a.eval p.2))=ps.toList.map λp=>(p.1,a.eval p.2):=by
   rw[List.zip_map']
  rw[he] at hz';have hlen:=r1.length;have hMd:aK M u d=none:=by rw[U0 hmd hrs]; exact hd hmd
  obtain⟨v,w',γ',h1,s2,m2,r2⟩:=qb0 (ps:=ps.map λp=>(p.1,a.eval p.2)) m1 s1.bd hB hMd ht hi hz c1 hzs c2 c3 hl hln (by simp at hlen |-; omega) (λk i x v h1 h2=>hz' k i x v h1 (by simpa using h2));refine nx (e8 (S:=Instr.buildSlice t n (ps.map λp=>(p.1,a.eval p.2))) (w':=w') ?_ h1) (F':=F1) (γ':=γ') ?_ ?_ ?_
  ·unfold execOp; rw[ho]
  ·rw[gY]; exact s1.trans s2
  ·rw[gY]; exact m2
  ·rw[gY]; exact r2
 ·
  rename_i t x0 x;obtain⟨h1,u,h2,h3⟩:=S6 hm hsub hc hn hr.1;rw[h1];exact eE hm hb (e8 (S:=Instr.loadAt t (a.eval x0)) (by unfold execOp; rw[ho]) h2) h3
 ·
  rename_i t x0 v0 x v;obtain⟨h1,w',F1,h2,h3,h4⟩:=zct hm hb hsub hc hn hr.1 hr.2.1;rw[h1];intro K Q hK;unfold Oper.wp;have:(execOp a.eval o).run P w = .ok .skip w':=by
   unfold execOp;rw[ho];simp[h2]
  rw[this];exact hK undef w' F1 γ h3 h4 trivial
 ·
  rename_i x0 x;split at hc<;>try trivial
  ·rename_i id off;cases hc;obtain⟨⟨h1,b,h2,h3⟩,_⟩:=hr;refine eE hm hb (u:=a.eval x0) ?_ ⟨h1,b,h2,h3⟩;unfold execOp;rw[ho];simp only[h3];rfl
  ·rename_i cs;cases hc;obtain⟨⟨h1,ad,h2,h3⟩,_⟩:=hr;refine eE hm hb (u:=a.eval x0) ?_ ⟨h1,ad,h2,h3⟩;unfold execOp;rw[ho];simp only[h2];rfl
 ·
  rename_i bo t x0 y0 yt x y;split at hc
  ·rename_i v hv;cases hc;have key:zV P t=true->∀ es (t0:Ty) (z:Int×t0.den) (vx:Value),bh P w F (aA M γ) (.ic es t0 z) vx->∀ q:BinOp,q = .eql\/q = .neq->(do eqGuard q t x0 (.const .nilIface) vx .nilIface; binOp q t vx .nilIface:Sem Value).run P w = .ok (.bool (if q = .eql then (dq es z.1).isNone else !(dq es z.1).isNone)) w:=λhu es t0 z vx hx q hq=>by
    obtain⟨ms,hms⟩:=qoa hu;rcases JQ hx with ⟨ty,u,i1,i2,_⟩|⟨i1,i2⟩
    ·subst i2;have he:(Op.equalIn (9999+1) t (.iface ty u) .nilIface).run P w = .ok false w:=qob hms;have he2:Op.equal t (.iface ty u) .nilIface=Op.equalIn (9999+1) t (.iface ty u) .nilIface:=rfl;rcases hq with rfl|rfl
     ·have h1:binOp .eql t (.iface ty u) .nilIface=(do pure (.bool (<- Op.equal t (.iface ty u) .nilIface))):=rfl;rw[h1,he2];simp[eqGuard,he,i1]
     ·have h1:binOp .neq t (.iface ty u) .nilIface=(do pure (.bool (!(<- Op.equal t (.iface ty u) .nilIface)))):=rfl;rw[h1,he2];simp[eqGuard,he,i1]
    ·subst i2;have he:(Op.equalIn (9999+1) t .nilIface .nilIface).run P w = .ok true w:=qoc hms;have he2:Op.equal t .nilIface .nilIface=Op.equalIn (9999+1) t .nilIface .nilIface:=rfl;rcases hq with rfl|rfl
     ·have h1:binOp .eql t .nilIface .nilIface=(do pure (.bool (<- Op.equal t .nilIface .nilIface))):=rfl;rw[h1,he2];simp[eqGuard,he,i1]
     ·have h1:binOp .neq t .nilIface .nilIface=(do pure (.bool (!(<- Op.equal t .nilIface .nilIface)))):=rfl;rw[h1,he2];simp[eqGuard,he,i1]
   unfold SN at hv;split at hv<;>try trivial
   ·rename_i es t0 z;split at hv<;>try trivial
    rename_i hui;cases hv;refine eE hm hb (e8 (S:=do eqGuard .eql t x0 (.const .nilIface) (a.eval x0) .nilIface; binOp .eql t (a.eval x0) .nilIface) (by unfold execOp; rw[ho]; rfl) (key hui es t0 z _ hr.1.2 .eql (.inl rfl))) ⟨rfl,rfl⟩
   ·rename_i es t0 z;split at hv<;>try trivial
    rename_i hui;cases hv;refine eE hm hb (e8 (S:=do eqGuard .neq t x0 (.const .nilIface) (a.eval x0) .nilIface; binOp .neq t (a.eval x0) .nilIface) (by unfold execOp; rw[ho]; rfl) (key hui es t0 z _ hr.1.2 .neq (.inr rfl))) ⟨rfl,rfl⟩
  split at hc<;>try trivial
  rename_i c n hcb;cases hc;obtain⟨u,h1,h2,h3⟩:=qbu hcb hn hr.1 hr.2.1 x0 y0;exact eE hm hb (e8 (S:=do eqGuard bo t x0 y0 (a.eval x0) (a.eval y0); binOp bo t (a.eval x0) (a.eval y0)) (by unfold execOp; rw[ho]) h1) ⟨h2,h3⟩
 ·
  rename_i uo t x0 k n;split at hc<;>try trivial
  cases hc;obtain⟨⟨_,h1,h2⟩,_⟩:=hr;refine eE hm hb (e8 (S:=Op.unary .neg (a.eval x0)) (u:=.int k (k.wrap (0-n))) (by unfold execOp; rw[ho]) ?_) ⟨rfl,rfl,gZ _ _⟩;rw[h1];simp[Op.unary,Op.intArith]
 ·
  rename_i uo t x0 bb;split at hc<;>try trivial
  cases hc;obtain⟨⟨_,h1⟩,_⟩:=hr;simp only[bh] at h1;refine eE hm hb (e8 (S:=Op.unary .not (a.eval x0)) (u:=.bool (!bb)) (by unfold execOp; rw[ho]) ?_) ⟨rfl,rfl⟩;rw[h1];simp[Op.unary]
 ·
  rename_i s t x0 k0 n;split at hc<;>try trivial
  rename_i ds k hs ht;cases hc;obtain⟨⟨_,h1,h2⟩,_⟩:=hr;refine eE hm hb (e8 (S:=convert s t (a.eval x0)) (u:=.int k (k.wrap n)) (by unfold execOp; rw[ho]) ?_) ⟨rfl,rfl,gZ _ _⟩;rw[h1];simp[convert,ud3 hs,ud3 ht,Conv.intToInt]
 ·
  rename_i t n0 c0 k n k' c;obtain⟨⟨_,h1,_⟩,⟨_,h2,_⟩,_⟩:=hr;obtain⟨u,w',γ',e1,e2,e3,e4⟩:=qt2 (kn:=k) (kc:=k') hm hb hB hd hc hn;refine nx (e8 (S:=Instr.makeSlice t (a.eval n0) (a.eval c0)) (by unfold execOp; rw[ho]) ?_) e2 e3 e4;rw[h1,h2];exact e1
 ·
  rename_i t x0 lo hi mx x r;split at hc
  ·rename_i e' hcut;cases hc;have hops:(Op.slice t x0 lo hi mx).operands.toList.map a.eval=a.eval x0::(lo.toList.map a.eval++(hi.toList.map a.eval++(mx.toList.map a.eval++[]))):=by simp[Op.operands]
   rw[hops] at hr;obtain⟨h1,h2,h3,vh,u,γ',h4,h5,h6,h7,h8⟩:=qee hm hb hB hsub hd hcut hn hr.1 hr.2;cases lo with
   |some _=>cases h1
   |none=>
    cases mx with
    |some _=>cases h3
    |none=>
     cases hi with
     |none=>cases h2
     |some hh=>
      simp only[Option.toList,List.map_nil,uei,udk,udp,udo,uft] at h4;refine nx (e8 (S:=Instr.sliceAt t (a.eval x0) none (some (a.eval hh)) none) (w':=w) (by unfold execOp; rw[ho]; rfl) ?_) h6 h7 h8;rw[h4];exact h5
  split at hc
  ·rename_i e' hsp;cases hc;split at hsp<;>try trivial
   rename_i hno;cases lo with
   |some _=>cases hno.1
   |none=>
    cases hi with
    |some _=>cases hno.2.1
    |none=>
     cases mx with
     |some _=>cases hno.2.2
     |none=>
      obtain⟨u,F1,e1,e2,e3,e4⟩:=zb4 hm hb hsub hsp hr.1;exact nx (e8 (S:=Instr.sliceAt t (a.eval x0) none none none) (w':=w) (by unfold execOp; rw[ho]; rfl) e1) e2 e3 e4
  split at hc<;>try trivial
  rename_i el x' u l r1 ht hrs hlo;split at hc<;>try trivial
  rename_i h r2 hhi;split at hc<;>try trivial
  rename_i k hmx;split at hc<;>try trivial
  rename_i cc hne;split at hc<;>try trivial
  rename_i tt y hly;split at hc<;>try trivial
  rename_i hcond;obtain⟨ti,hti⟩:=uaq.1 hcond.1;split at hc<;>try trivial
  rename_i z n hsl;cases hc;have hops:(Op.slice t x0 lo hi mx).operands.toList.map a.eval=a.eval x0::(lo.toList.map a.eval++(hi.toList.map a.eval++(mx.toList.map a.eval++[]))):=by simp[Op.operands]
  rw[hops] at hr;obtain⟨F1,s1,m1,t1,r1⟩:=Uz hm hb (g6 hsub) hrs hr.1;obtain⟨⟨kl,q1⟩,hr2⟩:=K3 hlo hr.2;obtain⟨⟨kh,q2⟩,hr3⟩:=K3 hhi hr2;obtain⟨⟨kk,q3⟩,hr4⟩:=K3 hmx hr3;obtain⟨A,cap,hv,hrep⟩:=qri hly r1.2;rw[hv] at hrep;obtain⟨v,e1,e2,e3⟩:=zb3 (P:=P) (w:=w) (F:=F1) (R:=aA (aK M u) γ) (kl:=kl) (kh:=kh) (kk:=kk) ht hti hcond.2 hsl hn hrep;refine nx (e8 (S:=Instr.sliceAt t (a.eval x0) (lo.map a.eval) (hi.map a.eval) (mx.map a.eval)) (w':=w) (by unfold execOp; rw[ho]) ?_) s1 m1 ⟨e2,e3⟩;rw[hv,q1,q2,q3];exact e1
 ·
  rename_i s x0 f x;split at hc<;>try trivial
  rename_i v hv;cases hc;obtain⟨u,h1,h2⟩:=qlt hv hr.1;exact eE hm hb (e8 (S:=Instr.fieldAt s (a.eval x0) f) (by unfold execOp; rw[ho]) h1) h2
 ·
  rename_i s x0 f cs;split at hc<;>try trivial
  rename_i fd hfd;split at hc<;>try trivial
  rename_i hcond;split at hc<;>try trivial
  rename_i l hl;split at hc<;>try trivial
  rename_i v hv;cases hc;obtain⟨u,h1,h2⟩:=qlu hfd hcond hl hv hr.1;exact eE hm hb (e8 (S:=Instr.field s (a.eval x0) f) (by unfold execOp; rw[ho]) h1) h2
 ·
  rename_i t x0 i0 x k i;obtain⟨hx,⟨_,h2,_⟩,_⟩:=hr;obtain⟨h1,u,h3,h4⟩:=qoj (k:=k) hm hsub hc hn hx;rw[h1];refine eE hm hb (e8 (S:=Instr.indexAt t (a.eval x0) (a.eval i0)) (by unfold execOp; rw[ho]) ?_) h4;rw[h2];exact h3
 ·
  rename_i t x0 i0 x k i;obtain⟨hx,⟨_,h2,_⟩,_⟩:=hr;obtain⟨h1,u,h3,h4⟩:=qoi (k:=k) hc hn hx;rw[h1];refine eE hm hb (e8 (S:=Instr.index t (a.eval x0) (a.eval i0)) (by unfold execOp; rw[ho]) ?_) h4;rw[h2];exact h3
 ·
  rename_i t x0 y0 es n;split at hc<;>try trivial
  rename_i kt et ht;split at hc<;>try trivial
  rename_i hk hz;cases hc;obtain⟨⟨_,hx⟩,⟨_,hy,_⟩,_⟩:=hr;simp only[bh] at hx hy;obtain⟨r,arr,ck,e1,e2,e3,e4⟩:=hx;have hzv:(zeroValue et).run P w = .ok .nilFunc w:=by
   cases hi:P.info? et with
   |none=>simp[hi] at hz
   |some i=>simp[hi] at hz; simp[zeroValue,typeInfo,hi,hz]
  have hrun:=qrj (w:=w) ht hk hzv e3 e4 n;refine eE hm hb (e8 (S:=Instr.lookup t (a.eval x0) (a.eval y0) true) (by unfold execOp; rw[ho]) (by rw[e1,hy]; exact hrun)) ?_;refine⟨_,rfl,rfl,⟨iP (es.find? (λx=>x.1==n)),by simp,?_,?_⟩,⟨_,rfl,rfl,rfl⟩,uT⟩
  ·cases es.find? (λx=>x.1==n)<;>rfl
  ·simp only[bh]
 ·
  rename_i x0 i xs;split at hc<;>try trivial
  rename_i v hv;cases hc;obtain⟨⟨arr,h1,h2,h3⟩,_⟩:=hr;have hat:∀ (xs:List AV) (g:Nat->Value->Prop) (i:Nat) (v:AV),mJ P w F (aA M γ) xs g->xs[i]? = some v->∃ u,g i u/\aM P w F (aA M γ) v u:=by
   intro xs
   induction xs with
   |nil=>intro g i v _ h; simp at h
   |cons y ys ih=>
    intro g i v h hi;cases i with
    |zero=>simp at hi; subst hi; exact h.1
    |succ i=>exact ih _ i v h.2 (by simpa using hi)
  obtain⟨u,h4,h5⟩:=hat xs _ i v h3 hv;refine eE hm hb (e8 (S:=Instr.extract (a.eval x0) i) (by unfold execOp; rw[ho]) ?_) h5;rw[h1];simp[Instr.extract,h4]
 ·
  rename_i x0 xt ty es t x;split at hc<;>try trivial
  rename_i fs hu;split at hc<;>try trivial
  rename_i hz;cases hc;obtain⟨z,hzv⟩:∃ z,(zeroValue ty).run P w = .ok z w:=by
   cases hi:P.info? ty with
   |none=>simp[hi] at hz
   |some i=>
    cases hz2:i.zero with
    |none=>simp[hi,hz2] at hz
    |some z=>exact⟨z,by simp[zeroValue,typeInfo,hi,hz2]⟩
  have hx:=hr.1.2;rcases JQ hx with ⟨ty',u,i1,i2,_⟩|⟨i1,i2⟩
  ·by_cases he:ty'=ty
   ·subst he;refine eE hm hb (e8 (S:=Instr.typeAssert (a.eval x0) xt ty' true) (u:=.tuple #[u,.bool true]) (by unfold execOp; rw[ho]) ?_) ?_
    ·rw[i2];simp[Instr.typeAssert,ud3 hu]
    ·refine⟨_,rfl,rfl,⟨u,rfl,uT⟩,⟨_,rfl,rfl,?_⟩,uT⟩;simp[bh,i1]
   ·refine eE hm hb (e8 (S:=Instr.typeAssert (a.eval x0) xt ty true) (u:=.tuple #[z,.bool false]) (by unfold execOp; rw[ho]) ?_) ?_
    ·rw[i2];simp[Instr.typeAssert,ud3 hu,he,hzv]
    ·refine⟨_,rfl,rfl,⟨z,rfl,uT⟩,⟨_,rfl,rfl,?_⟩,uT⟩;simp[bh,i1,he]
  ·refine eE hm hb (e8 (S:=Instr.typeAssert (a.eval x0) xt ty true) (u:=.tuple #[z,.bool false]) (by unfold execOp; rw[ho]) ?_) ?_
   ·rw[i2];simp[Instr.typeAssert,ud3 hu,hzv]
   ·refine⟨_,rfl,rfl,⟨z,rfl,uT⟩,⟨_,rfl,rfl,?_⟩,uT⟩;simp[bh,i1]
 ·
  rename_i xs f first cap
  split at hc<;>try trivial
  rename_i hf;split at hc<;>try trivial
  rename_i caps u hk;cases hc;have hfirst:first = #[]:=Array.eq_empty_of_size_eq_zero hf
  subst hfirst;have hops:(Op.makeFunc (.func f) #[] cap).operands.toList.map a.eval=(cap.map a.eval).toList:=by simp[Op.operands]
  rw[hops] at hr;obtain⟨F1,s1,m1,r1⟩:∃ F1,Step B w F γ M w F1 γ (aK M u)/\MemOK P B w F1 γ (aK M u)/\bC P w F1 (aA (aK M u) γ) (caps.map .c) (cap.map a.eval).toList:=by
   split at hk
   ·exact EH hm hb hsub hk hr
   ·obtain⟨rfl,h2⟩:=S5 hk hr;exact⟨F,Step.refl hb,hm,h2⟩
  obtain⟨l1,l2⟩:=qcb r1;refine nx (e8 (S:=Instr.makeFunc (.func f) ((#[]:Array Operand).map a.eval) (cap.map a.eval)) (u:=.func (.func f) #[] (cap.map a.eval)) (w':=w) (by unfold execOp; rw[ho]) ?_) s1 m1 ?_
  ·simp[Instr.makeFunc]
  ·exact⟨rfl,cap.map a.eval,rfl,by simpa using l1,by simpa using l2⟩
 ·
  rename_i xs bb cargs ts;have hops:(Op.call ⟨.builtin bb,cargs,ts⟩).operands.toList.map a.eval=(cargs.map a.eval).toList:=by simp[Op.operands,Call.operands]
  rw[hops] at hr;have hex:∀ (S:Sem Value) (u:Value) (w':World),(∀ (ty:TypeId) (cs:Array Bool),builtin bb ts ty cs (cargs.map a.eval)=(do pure (.value (<- S)):Sem Next))->S.run P w = .ok u w'->(execOp a.eval o).run P w = .ok (.value u) w':=by
   intro S u w' h1 h2;unfold execOp;rw[ho];simp[resolve,invoke,h1,h2]
  unfold O6 at hc;split at hc<;>try trivial
  ·rename_i t x hts;have hargs:∃ v,cargs.map a.eval = #[v]/\aM P w F (aA M γ) x v:=by
    cases hl:(cargs.map a.eval).toList with
    |nil=>rw[hl] at hr; exact hr.elim
    |cons v r=>cases r with
     |nil=>rw[hl] at hr; exact⟨v,by rw[<- uc5,hl],hr.1⟩
     |cons _ _=>rw[hl] at hr; exact hr.2.elim
   obtain⟨v,hv,hx⟩:=hargs;have hts':ts = #[t]:=by rw[<- uc5,hts]
   obtain⟨h1,u,h2,h3⟩:=qrg hm hsub hc hx o.type;rw[h1];refine eE hm hb (hex (Builtin.len_ #[t] 0 #[v]) u w (λty cs=>?_) ?_) h3
   ·rw[hv,hts']; rfl
   ·exact h2
  ·rename_i t t' s x hts;split at hc<;>try trivial
   rename_i htt;subst htt;have hargs:∃ v1 v2,cargs.map a.eval = #[v1,v2]/\aM P w F (aA M γ) s v1/\aM P w F (aA M γ) x v2:=by
    cases hl:(cargs.map a.eval).toList with
    |nil=>rw[hl] at hr; exact hr.elim
    |cons v r=>cases r with
     |nil=>rw[hl] at hr; exact hr.2.elim
     |cons v2 r=>cases r with
      |nil=>rw[hl] at hr; exact⟨v,v2,by rw[<- uc5,hl],hr.1,hr.2.1⟩
      |cons _ _=>rw[hl] at hr; exact hr.2.2.elim
   obtain⟨v1,v2,hv,hs,hx⟩:=hargs;have hts':ts = #[t,t]:=by rw[<- uc5,hts]
   obtain⟨u,w',γ',h2,h3,h4,h5⟩:=qa1 (ty:=0) hm hb hB hsub hd hc hn hs hx;refine nx (hex (Builtin.append_ #[t,t] 0 #[v1,v2]) u w' (λty cs=>?_) h2) h3 h4 h5;rw[hv,hts']; rfl
  ·rename_i k n r;split at hc<;>try trivial
   rename_i y hy;cases hc;cases hl:(cargs.map a.eval).toList with
   |nil=>rw[hl] at hr; exact hr.elim
   |cons v r0=>
    rw[hl] at hr;obtain⟨⟨_,rfl,hk⟩,hr⟩:=hr;obtain⟨h1,h2⟩:=SD hy hk hr;refine eE hm hb (hex (Builtin.min_ ts 0 (cargs.map a.eval)) (.int k y) w (λty cs=>rfl) ?_) ⟨rfl,rfl,h2⟩;simp only[Builtin.min_,hl];exact h1
  ·rename_i k n r;split at hc<;>try trivial
   rename_i y hy;cases hc;cases hl:(cargs.map a.eval).toList with
   |nil=>rw[hl] at hr; exact hr.elim
   |cons v r0=>
    rw[hl] at hr;obtain⟨⟨_,rfl,hk⟩,hr⟩:=hr;obtain⟨h1,h2⟩:=SB hy hk hr;refine eE hm hb (hex (Builtin.max_ ts 0 (cargs.map a.eval)) (.int k y) w (λty cs=>rfl) ?_) ⟨rfl,rfl,h2⟩;simp only[Builtin.max_,hl];exact h1
 ·
  rename_i recv name cargs ts es t x args;split at hc<;>try trivial
  rename_i args' u fs hrs hfs;split at hc<;>try trivial
  rename_i rs y n hv;cases hc;have hops:(Op.call ⟨.invoke recv name,cargs,ts⟩).operands.toList.map a.eval=a.eval recv::(cargs.map a.eval).toList:=by simp[Op.operands,Call.operands]
  rw[hops] at hr;obtain⟨F1,s1,m1,t1,r1⟩:=ko hm hb (g6 hsub) hrs hr.2;have hx:=hr.1.2;rcases JQ hx with ⟨ty,v0,i1,i2,i3⟩|⟨i1,i2⟩
  ·have hrx:aM P w F1 (aA (aK M u) γ) (gL t x.2) v0:=jV (i3.mono s1.hF (λ_ _=>rfl));obtain⟨f,e1,e2,e3⟩:=Hq hΓ (k:=x.1) s1.bd (vs:=v0::(cargs.map a.eval).toList) (args:=gL t x.2::args') ⟨hrx,r1⟩ hv hn;obtain⟨p,hp,hpf⟩:∃ p,fs.find? (λx'=>x'.1==x.1)=some p/\p.2=f:=by
    cases hq:fs.find? (λx'=>x'.1==x.1) with
    |none=>rw[hq] at e1; simp[iP] at e1
    |some p=>rw[hq] at e1; simp[iP] at e1; exact⟨p,rfl,e1⟩
   subst hpf;obtain⟨ty',j1,j2⟩:=JP hfs hp;rw[i1] at j1;cases j1;intro K Q hK;unfold Oper.wp;have q1:(#[Value.iface ty v0]++Array.map a.eval cargs)[0]? = some (.iface ty v0):=by simp[Array.getElem?_append]
   have q2:(Array.map a.eval cargs).extract 0 cargs.size=Array.map a.eval cargs:=by
    have:cargs.size=(Array.map a.eval cargs).size:=by simp
    rw[this];exact Array.extract_size
   have hrun:(execOp a.eval o).run P w = .ok (.enter p.2 (#[v0]++cargs.map a.eval)) w:=by
    unfold execOp;rw[ho];simp only[resolve,uer,uet,uck,invoke,i2];rw[q1];have q3:(#[Value.iface ty v0]++Array.map a.eval cargs).extract 1 (#[Value.iface ty v0]++Array.map a.eval cargs).size=Array.map a.eval cargs:=by simp[q2]
    simp only[q3];rw[qz2 j2,e2]
   rw[hrun];show Calls P p.2 (#[v0]++cargs.map a.eval) w _;have harr:(v0::(cargs.map a.eval).toList).toArray = #[v0]++cargs.map a.eval:=by simp
   rw[harr] at e3;refine e3.mono λen w2 hp=>?_;obtain⟨v2,F2,rfl,hbel,hF2,hF2',hrep⟩:=hp;obtain⟨s2,m2⟩:=Step.below m1 hB s1.bd hbel hF2 hF2';exact hK v2 w2 F2 γ (s1.trans s2) m2 (CR hrep)
  ·obtain⟨p,hp⟩:=O7 hv hn;obtain⟨ty',j1,_⟩:=JP hfs hp;rw[i1] at j1;cases j1
 ·
  rename_i f0 cargs ts es n id args;split at hc<;>try trivial
  rename_i ety cs hid;split at hc<;>try trivial
  rename_i T z ns hu;cases hc;have hops:(Op.call ⟨.value f0,cargs,ts⟩).operands.toList.map a.eval=a.eval f0::(cargs.map a.eval).toList:=by simp[Op.operands,Call.operands]
  rw[hops] at hr
  match hca:(cargs.map a.eval).toList,hr with
  |[],hr=>exact hr.2.elim
  |vp::vs,⟨⟨_,hf⟩,⟨_,hp⟩,hvs⟩=>
   have hf:a.eval f0=iP (es.find? (λx=>x.1==n)):=hf;obtain⟨b,arr,q1,rfl,q3,q4,q5,q6,q7⟩:=oD hm (hsub _ _ hid) hp;have hone:∀ u∈arr,u.oneCell'=true:=λu hu=>by
    obtain⟨j,hj,rfl⟩:=Array.getElem_of_mem hu;obtain⟨u',z1,z2,_⟩:=q7.at_ (j:=j) (c:=cs[j]'(by omega)) (uap _);rw[uam hj] at z1;cases z1;exact z2
   obtain⟨hl,f,e1,e2,e3⟩:=VV hΓ q3 q6 hone q7 hvs hu hn;intro K Q hK;unfold Oper.wp;have hrun:(execOp a.eval o).run P w = .ok (.enter f (cargs.map a.eval)) w:=by
    unfold execOp;rw[ho];simp[resolve,hf,e1,Deferred.ofValue,invoke,e2]
   rw[hrun];show Calls P f (cargs.map a.eval) w _;have harr:(Value.pointer (some ⟨b,0,none⟩)::vs).toArray=cargs.map a.eval:=by rw[<- hca]
   rw[harr] at e3;refine e3.mono λen w2 hp2=>?_;obtain⟨u,nv,rfl,r1,rfl,r2⟩:=hp2;have hrep:aR P w F (aA M γ) (enc T z) (λj u=>(d8 arr 0 nv)[j]? = some u):=by
    refine(aD.enc T z r2).turn λj u hj hu=>?_;rw[oP] at hj;have:=Ei (arr:=arr) (off:=0) (vs:=nv) (j:=j) (by omega) (by omega);rw[uew] at this;rw[this];exact hu
   obtain⟨s1,m1⟩:=qV hm hb (hsub _ _ hid) q1 q3 q4 q5 (by omega) (by rw[oP]; omega) hrep;have hov:d8 arr 0 nv=nv.toArray:=by
    have:nv.length=arr.size:=by omega
    simp[d8,this]
   rw[hov] at s1 m1;exact hK u _ F γ s1 m1 trivial
 ·
  rename_i f0 cargs ts fv args _;split at hc
  ·rename_i rw0 hrow;have hops:(Op.call ⟨.value f0,cargs,ts⟩).operands.toList.map a.eval=a.eval f0::(cargs.map a.eval).toList:=by simp[Op.operands,Call.operands]
   rw[hops] at hr;unfold Ux at hrow;split at hrow<;>try trivial
   rename_i f1 _;obtain⟨_,arr,e1,e2,_⟩:=hr.1;have e3:arr = #[]:=Array.eq_empty_of_size_eq_zero e2;subst e3;obtain⟨hen,hcalls⟩:=qzr (hΓ.2 _ _ hrow) hm hb hB hsub hd hc hn hr.2;intro K Q hK;unfold Oper.wp;have hrun:(execOp a.eval o).run P w = .ok (.enter f1 (cargs.map a.eval)) w:=by
    unfold execOp;rw[ho];simp[resolve,e1,Deferred.ofValue,invoke,hen]
   rw[hrun];show Calls P f1 (cargs.map a.eval) w _;rw[ubd] at hcalls;refine hcalls.mono λen w2 hp=>?_;obtain⟨u,γ',rfl,s1,m1,r1⟩:=hp;exact hK u w2 F γ' s1 m1 r1
  split at hc<;>try trivial
  rename_i args' u hrs;split at hc<;>try trivial
  rename_i v n hv;cases hc;have hops:(Op.call ⟨.value f0,cargs,ts⟩).operands.toList.map a.eval=a.eval f0::(cargs.map a.eval).toList:=by simp[Op.operands,Call.operands]
  rw[hops] at hr;obtain⟨F1,s1,m1,t1,r1⟩:=ko hm hb (g6 hsub) hrs hr.2;obtain⟨f,caps,e1,e2,rs,y,e3,e4⟩:=qca hΓ hv hn s1.bd (s1.repA hr.1) r1;intro K Q hK;unfold Oper.wp;have hrun:(execOp a.eval o).run P w = .ok (.enter f (cargs.map a.eval++caps)) w:=by
   unfold execOp;rw[ho];simp[resolve,e1,Deferred.ofValue,invoke,e2]
  rw[hrun];show Calls P f (cargs.map a.eval++caps) w _;rw[ubd] at e4;refine e4.mono λe w2 hp=>?_;obtain⟨v2,F2,rfl,hbel,hF2,hF2',hrep⟩:=hp;obtain⟨s2,m2⟩:=Step.below m1 hB s1.bd hbel hF2 hF2';exact hK v2 w2 F2 γ (s1.trans s2) m2 (by rw[e3]; exact CR hrep)
 ·cases hc
end
end Go.Ab
namespace Go.Ab
open Go Go.RowKit
structure Env where
 w0:World
 F0:Nat->Prop
 G:Nat->Value
 D:List Deferred
 B:Nat
 hB:B<=w0.heap.size
section
variable {P:Program} {B:Nat} {o:Oper} {a:Act} {w w':World} {E:Env} {F F':Nat->Prop} {γ γ' γ0:Nat->Value} {M m:aY} {R:Nat->Value->Prop} {Γ:Gm}
def VS {tm:Tmp->Value} {c:Operand} {want:Bool} {x:AV} {u:Value} (hc:∀ t,c = .tmp t->tm t = .bool want) (h:iB P w F R tm x u):iB P w F R tm (xP c want x) u:=by
 unfold xP;split
 ·rename_i g w0 v;split
  ·rename_i t;split
   ·rename_i hgt;obtain⟨rfl,rfl⟩:=hgt;have hv:=h (hc g rfl);cases v<;>first|exact hv|exact hv.elim
   ·exact h
  ·exact h
 ·exact h
def qxm {p:Bool} {x y v:AV} (h:Aq p x y=some v):iS x=true/\iS y=true:=by
 unfold Aq at h;split at h<;>first|exact⟨rfl,rfl⟩|cases h
def H4 (hΓ:hH P Γ) {d:Nat} {op:Op} {vs:List AV} {e:Eff} (ho:o.op=op) (hm:MemOK P B w F γ M) (hb:∀ b,F b->b<w.heap.size) (hB:B<=w.heap.size)
  (hsub:∀ i y,m i=some y->M i=some y) (hd:m d=none->M d=none) (hc:CF P Γ d op vs m=some e) (hn:aE e.need)
  (hr:pR P w F (aA M γ) (λg=>a.tmps.getD g undef) vs (op.operands.toList.map a.eval)):BE P B o a w F γ M e.v e.wr:=by
 unfold CF at hc;split at hc
 ·rename_i c ao bo;split at hc<;>try trivial
  rename_i p x y;split at hc<;>try trivial
  rename_i v hv;cases hc;obtain⟨hcv,hx,hy,_⟩:=hr;obtain⟨_,hcv⟩:=hcv;simp only[bh] at hcv;obtain⟨n1,n2⟩:=qxm hv;have htm:∀ want,p=want->∀ t,c = .tmp t->a.tmps.getD t undef = .bool want:=by
   rintro want rfl t rfl;exact hcv
  have hx':=λhp=>(VS (htm true hp) hx).plain n1;have hy':=λhp=>(VS (htm false hp) hy).plain n2;have hrr:=qxn hv hx' hy';refine eE hm hb ?_ hrr;unfold execOp;rw[ho];simp[hcv,asBool]
 ·split at hc<;>try trivial
  rename_i hnm;exact qdn hΓ ho hm hb hB hsub hd hc hn (hr.plain hnm)
def eL (P:Program) (w:World) (F:Nat->Prop) (R:Nat->Value->Prop) (tm:Tmp->Value):AV->Value->Prop
 |.maybe g want v,u=>(tm g = .bool want->aM P w F R v u)/\(tm g ≠ .bool want->u=undef)
 |v,u=>aM P w F R v u
def eL.toM {tm:Tmp->Value} {x:AV} {u:Value} (h:eL P w F R tm x u):iB P w F R tm x u:=by
 cases x<;>first|exact h|exact h.1
def eL.mono {tm:Tmp->Value} {x:AV} {u:Value} {R':Nat->Value->Prop} (hF:∀ b,F b->F' b) (hw:∀ b,F b->w'.heap[b]? = w.heap[b]?) (hR:∀ id v,R id v->R' id v) (h:eL P w F R tm x u):eL P w' F' R' tm x u:=by
 cases x with
 |maybe g want v=>exact⟨λhg=>aM.mono hF hw hR v (h.1 hg),h.2⟩
 |dead=>trivial
 |c a=>exact aM.mono hF hw hR (.c a) h
 |agg cs=>exact aM.mono hF hw hR (.agg cs) h
 |tup vs=>exact aM.mono hF hw hR (.tup vs) h
 |optr _ _ _ _=>exact aM.mono (P:=P) hF hw hR (.optr _ _ _ _) h
 |aptr _ _ _=>exact aM.mono hF hw hR (.aptr _ _ _) h
structure InvG (P:Program) (E:Env) (st:St) (a:Act) (w:World) (W:List Tmp) (F:Nat->Prop) (γ:Nat->Value):Prop where
 n:a.tmps.size=st.n
 df:a.defers=E.D
 step:∃ γ0,Step E.B E.w0 E.F0 γ0 (λ_=>none) w F γ st.mem
 mem:MemOK P E.B w F γ st.mem
 sl:∀ t,eL P w F (aA st.mem γ) (λg=>a.tmps.getD g undef) (st.sl t) (a.tmps.getD t undef)
 hg:∀ t g want v,st.sl t = .maybe g want v->g∈W
 gh:∀ t,aM P w F (aA st.mem γ) (st.gs t) (E.G t)
def RH {sl:Nat->AV} {tm:Tmp->Value} (h:∀ t,eL P w F R tm (sl t) (tm t)):(n:Nat) -> {g:Tmp} -> {want:Bool} -> {gs:List (Tmp×Bool×Bool)}->oV sl n g want=some gs->tm g = .bool want ->
  ∀ x∈gs,tm x.1 = .bool x.2.1/\x.2.2=x.2.1
 |0,_,_,_,hh,_=>by simp[oV] at hh
 |n+1,g,want,gs,hh,hg=>by
  have hs:=h g;unfold oV at hh;split at hh<;>try trivial
  ·rename_i b hsl;cases hh;rw[hsl] at hs;have:tm g = .bool b:=hs.2;rw[hg] at this;cases this;intro x hx;simp at hx;subst hx;exact⟨hg,rfl⟩
  ·rename_i g0 w0 b hsl;split at hh<;>try trivial
   rename_i l hl;cases hh;rw[hsl] at hs;by_cases hg0:tm g0 = .bool w0
   ·have:=(hs.1 hg0).2;rw[hg] at this;cases this;intro x hx;rcases ueg.1 hx with rfl|hx
    ·exact⟨hg,rfl⟩
    ·exact RH h n hl hg0 x hx
   ·have:=hs.2 hg0;rw[hg] at this;simp[undef] at this
def zel {gs:List (Tmp×Bool×Bool)} {p:Prop} (h:gs.foldr (λx q=>x.2.2=x.2.1->q) p) (hg:∀ x∈gs,x.2.2=x.2.1):p:=by
 induction gs with
 |nil=>exact h
 |cons x gs ih=>exact ih (h (hg x (by simp))) (λy hy=>hg y (by simp[hy]))
def zek {gs:List (Tmp×Bool×Bool)} {ns:List Prop} (h:aE (LY gs ns)) (hg:∀ x∈gs,x.2.2=x.2.1):aE ns:=by
 induction ns with
 |nil=>trivial
 |cons p ns ih=>
  have h':aE (gs.foldr (λx q=>x.2.2=x.2.1->q) p::LY gs ns):=h;rw[jS] at h' |-;exact⟨zel h'.1 hg,ih h'.2⟩
def zen {tm:Tmp->Value} {gs:List (Tmp×Bool×Bool)} {x:AV} {u:Value} (hg:∀ x∈gs,tm x.1 = .bool x.2.1) (h:iB P w F R tm x u):iB P w F R tm (rF gs x) u:=by
 unfold rF;split
 ·rename_i g want v;split
  ·rename_i hany;obtain⟨y,hy,he⟩:=List.any_eq_true.1 hany;simp at he;obtain⟨rfl,rfl⟩:=he;have hv:=h (hg y hy);cases v<;>first|exact hv|exact hv.elim
  ·exact h
 ·exact h
def E6 (a:Act) (d:Option Tmp) (v:Value) (t:Tmp) (hd:∀ x,d=some x->x<a.tmps.size):(a.put d v).tmps.getD t undef=if d=some t then v else a.tmps.getD t undef:=by
 cases d with
 |none=>simp[Act.put]
 |some x=>
  have hx:=hd x rfl;by_cases h:x=t
  ·subst h;simp[Act.put,hx]
  ·have:(some x=some t)=False:=by simp[h]
   simp only[Act.put,this];simp[uaa h]
def CW {sl:Nat->AV} (h:∀ t,eL P w F R (λg=>a.tmps.getD g undef) (sl t) (a.tmps.getD t undef)) (x:Operand):iB P w F R (λg=>a.tmps.getD g undef) (gN sl x) (a.eval x):=by
 cases x with
 |tmp t=>exact(h t).toM
 |const v=>
  have:=BS (P:=P) (w:=w) (F:=F) (R:=R) v;show iB _ _ _ _ _ (pV v) v;unfold pV at *;split
  ·split<;>simp_all[iB]
  ·trivial
  ·simp_all[iB]
 |global g=>trivial
 |func f=>exact⟨rfl,#[],rfl,rfl,uT⟩
def vS {sl:Nat->AV} (h:∀ t,eL P w F R (λg=>a.tmps.getD g undef) (sl t) (a.tmps.getD t undef)):(xs:List Operand)->pR P w F R (λg=>a.tmps.getD g undef) (xs.map (gN sl)) (xs.map a.eval)
 |[]=>trivial
 |x::r=>⟨CW h x,vS h r⟩
def Qf {sl:Nat->AV} {gs:List (Tmp×Bool×Bool)} (hg:∀ x∈gs,a.tmps.getD x.1 undef = .bool x.2.1) (h:∀ t,eL P w F R (λg=>a.tmps.getD g undef) (sl t) (a.tmps.getD t undef)) :
  (xs:List Operand)->pR P w F R (λg=>a.tmps.getD g undef) (xs.map λx=>rF gs (gN sl x)) (xs.map a.eval)
 |[]=>trivial
 |x::r=>⟨zen hg (CW h x),Qf hg h r⟩
def AL (sl:Nat->AV) (d:Option Tmp) (v:AV) (t:Nat):fp sl d v t=if d=some t then v else sl t:=by
 cases d with
 |none=>simp[fp]
 |some x=>
  by_cases h:t=x
  ·subst h; simp[fp]
  ·simp[fp,h,Ne.symm h]
def ng {st:St} {W:List Tmp} {d:Option Tmp} {v:AV} {u:Value} {wr:List (Nat×Ob)} (hi:InvG P E st a w W F γ) (hd:∀ x,d=some x->x<st.n/\x ∉ W) (hs:Step E.B w F γ st.mem w' F' γ' (aK st.mem wr)) (hm:MemOK P E.B w' F' γ' (aK st.mem wr))
  (hv:eL P w' F' (aA (aK st.mem wr) γ') (λg=>a.tmps.getD g undef) v u) (hvg:∀ g want y,v = .maybe g want y->g∈W) :
  InvG P E ⟨st.n,fp st.sl d v,aK st.mem wr,st.gs⟩ (a.put d u) w' (d.toList++W) F' γ':=by
 have hget:=λt=>E6 a d u t (λx hx=>by rw[hi.n]; exact(hd x hx).1);have htm:∀ g,g∈W->(a.put d u).tmps.getD g undef=a.tmps.getD g undef:=λg hg=>by
  rw[hget,if_neg];intro he;exact(hd g he).2 hg
 have hcongr:∀ (x:AV) (y:Value),(∀ g want z,x = .maybe g want z->g∈W)->eL P w' F' (aA (aK st.mem wr) γ') (λg=>a.tmps.getD g undef) x y->eL P w' F' (aA (aK st.mem wr) γ') (λg=>(a.put d u).tmps.getD g undef) x y:=by
  intro x y hx h;cases x with
  |maybe g want z=>
   have:=htm g (hx g want z rfl);exact⟨λhh=>h.1 (this.symm.trans hh),λhh=>h.2 (λh3=>hh (this.trans h3))⟩
  |_=>exact h
 refine⟨?_,?_,?_,hm,λt=>?_,λt g want z ht=>?_,λt=>hs.repA (hi.gh t)⟩
 ·show(a.put d u).tmps.size=st.n;rw[<- hi.n];cases d<;>simp[Act.put]
 ·rw[<- hi.df];cases d<;>rfl
 ·obtain⟨γ0,h0⟩:=hi.step;exact⟨γ0,h0.trans hs⟩
 ·rw[hget];simp only[AL];by_cases h:d=some t
  ·rw[if_pos h,if_pos h];exact hcongr v u hvg hv
  ·rw[if_neg h,if_neg h];exact hcongr _ _ (hi.hg t) ((hi.sl t).mono hs.hF hs.hw hs.hR)
 ·simp only[AL] at ht;by_cases h:d=some t
  ·rw[if_pos h] at ht;exact ua4 _ (hvg g want z ht)
  ·rw[if_neg h] at ht;exact ua4 _ (hi.hg t g want z ht)
def rL {st:St} {W:List Tmp} (hi:InvG P E st a w W F γ):E.B<=w.heap.size:=by
 obtain⟨γ0,h⟩:=hi.step;exact uen E.hB h.size
def eo {st:St} {W:List Tmp} (hi:InvG P E st a w W F γ):∀ b,F b->b<w.heap.size:=by
 obtain⟨γ0,h⟩:=hi.step;exact h.bd
def K0 (hΓ:hH P Γ) {ops:Array Oper} {st:St} {W:List Tmp} {e:Ef} {bs:Nat} (hi:InvG P E st a w W F γ) (he:eW P Γ bs ops.toList o st.sl st.mem=some e) (hn:aE e.need)
  (hd:∀ x,o.dst=some x->x<st.n/\x ∉ W) (hgW:∀ j want g,o.guard=some (j,want)->(ops[j]?).bind (·.dst)=some g->g∈W) (K:Act->World->Prop) (Q:Exit->Act->World->Prop)
  (hK:∀ a' w' F' γ',InvG P E (e.go st) a' w' (o.dst.toList++W) F' γ'->K a' w') :
  if Region.wanted o (yielded ops a.tmps) then o.wp P a w K Q else K (a.put o.dst undef) w:=by
 have hrest:∀ (ks:List Nat) (i:Nat) (y:Ob),kj ks st.mem i=some y->st.mem i=some y:=by
  intro ks i y h;unfold kj at h;split at h
  ·exact h
  ·cases h
 have hrd:∀ (ks:List Nat) (d:Nat),kj (d::ks) st.mem d=none->st.mem d=none:=by
  intro ks d h;unfold kj at h;simpa using h
 unfold eW at he;split at he
 ·
  rename_i hgd;have hw:Region.wanted o (yielded ops a.tmps)=true:=by simp[Region.wanted,hgd]
  rw[if_pos hw];simp only at he;split at he<;>try trivial
  rename_i ef hcore;cases he;have howes:=H4 hΓ rfl hi.mem (eo hi) (rL hi) (hrest _) (hrd _ _) hcore hn (vS hi.sl _);refine howes K Q λu w' F' γ' hs hm ha=>hK _ w' F' γ' ?_;have hnm:iS ef.v=true:=by
   cases hv:ef.v with
   |maybe _ _ _=>rw[hv] at ha; exact ha.elim
   |_=>rfl
  refine ng hi hd hs hm ?_ (λg want y hv=>by have hv':ef.v=_:=hv; rw[hv'] at hnm; cases hnm);cases hv:ef.v with
  |maybe _ _ _=>rw[hv] at hnm; cases hnm
  |_=>rw[hv] at ha; exact ha
 ·
  rename_i j want hgd;split at he<;>try trivial
  rename_i g hg;have hgj:(ops[j]?).bind (·.dst)=some g:=by simpa using hg
  have hgW':=hgW j want g hgd hgj;have hyield:(yielded ops a.tmps j==some want)=true↔a.tmps.getD g undef = .bool want:=by
   unfold yielded;rw[hgj];simp;cases hx:a.tmps[g]? with
   |none=>simp[hx,undef]
   |some y=>
    simp only[uac,hx,uda];cases y<;>simp
  split at he<;>try trivial
  rename_i gs hgs;simp only at he;split at he<;>try trivial
  rename_i ef hcore;split at he<;>try trivial
  rename_i hwr;cases he;by_cases hw:Region.wanted o (yielded ops a.tmps)=true
  ·rw[if_pos hw];have hgt:=hyield.1 (by simpa[Region.wanted,hgd] using hw);have hall:=RH hi.sl 5 hgs hgt;have hneed:=zek hn (λx hx=>(hall x hx).2);have howes:=H4 hΓ rfl hi.mem (eo hi) (rL hi) (hrest _) (hrd _ _) hcore hneed (Qf (λx hx=>(hall x hx).1) hi.sl _);rw[hwr] at howes;refine howes K Q λu w' F' γ' hs hm ha=>hK _ w' F' γ' ?_;exact ng hi hd hs hm ⟨λ_=>ha,λh=>absurd hgt h⟩ (λg' w'' y hv=>by cases hv; exact hgW')
  ·rw[if_neg hw];have hgt:=λh=>hw (by simpa[Region.wanted,hgd] using hyield.2 h);refine hK _ w F γ (ng hi hd (Step.refl (eo hi)) hi.mem ⟨λh=>absurd h hgt,λ_=>rfl⟩ (λg' w'' y hv=>by cases hv; exact hgW'))
end
end Go.Ab

namespace Go.Ab
open Go Go.RowKit
section
variable {P:Program} {B:Nat} {o:Oper} {a:Act} {w w':World} {E:Env} {F F':Nat->Prop} {b:Nat} {γ γ' γ0:Nat->Value} {M m:aY} {R:Nat->Value->Prop} {Γ:Gm}
def VF {op:Op} {t:Tmp} (h : .tmp t∈op.operands.toList):t∈xM op:=ub7.2 ⟨.tmp t,h,rfl⟩
def Qh {sl sl':Nat->AV} {op:Op} (h:∀ t∈xM op,sl' t=sl t):op.operands.toList.map (gN sl')=op.operands.toList.map (gN sl):=
 List.map_congr_left λx hx=>by
  cases x with
  |tmp t=>exact h t (VF hx)
  |_=>rfl
def RG {sl sl':Nat->AV}:(n:Nat) -> {g:Tmp} -> {want:Bool} -> {gs:List (Tmp×Bool×Bool)}->oV sl n g want=some gs->(∀ t∈gs.map (·.1),sl' t=sl t)->oV sl' n g want=some gs
 |0,_,_,_,h,_=>by simp[oV] at h
 |n+1,g,want,gs,h,hs=>by
  unfold oV at h |-;split at h<;>try trivial
  ·rename_i b hb;cases h;rw[hs g (by simp),hb]
  ·rename_i g0 w0 b hb;split at h<;>try trivial
   rename_i l hl;cases h;rw[hs g (by simp),hb];simp only;rw[RG n hl (λt ht=>hs t (by simp only[uei,ueg]; exact .inr ht))]
def ql1 {A C:Type} {l:List A} {f g:A->List C} (h:∀ i∈l,f i=g i):l.flatMap f=l.flatMap g:=by
 induction l with
 |nil=>rfl
 |cons x l ih=>rw[List.flatMap_cons,List.flatMap_cons,h x (by simp),ih (λi hi=>h i (ubg _ hi))]
def Sq {op:Op} {vs:List AV} {m m':aY} (h:∀ k∈wo op vs m,m' k=m k):wo op vs m'=wo op vs m:=by
 unfold wo at *;split
 ·rename_i hm;refine ufv (List.flatMap wl vs ++ ·) (ql1 λi hi=>?_);rw[h i (ubh _ hi)]
 ·rfl
 ·rfl
def Uk {ks:List Nat} {m m':aY} (h:∀ k∈ks,m' k=m k):kj ks m'=kj ks m:=by
 funext i;unfold kj;split
 ·rename_i hc;exact h i (by simpa using hc)
 ·rfl
def PO {ops:List Oper} {sl sl':Nat->AV} {m m':aY} {e:Ef} (he:eW P Γ b ops o sl m=some e) (hs:∀ t∈e.rd,sl' t=sl t) (hk:∀ k∈e.ks,m' k=m k):eW P Γ b ops o sl' m'=some e:=by
 unfold eW at he |-;split at he
 ·rename_i hgd;simp only at he |-;split at he<;>try trivial
  rename_i ef hcore;cases he;have h1:=Qh hs;rw[h1,Sq (λk hk'=>hk k (ubg _ hk')),Uk hk,hcore]
 ·rename_i j want hgd;split at he<;>try trivial
  split at he<;>try trivial
  rename_i gs hgs;simp only at he;split at he<;>try trivial
  rename_i ef hcore;split at he<;>try trivial
  rename_i hwr;cases he;rw[RG 5 hgs (λt ht=>hs t (ubh _ ht))];simp only;have h1:(o.op.operands.toList.map λx=>rF gs (gN sl' x))=(o.op.operands.toList.map λx=>rF gs (gN sl x)):=
   List.map_congr_left λx hx=>by
    cases x with
    |tmp t=>show rF gs (sl' t)=rF gs (sl t); rw[hs t (ua4 _ (VF hx))]
    |_=>rfl
  rw[h1,Sq (λk hk'=>hk k (ubg _ hk')),Uk hk,hcore];simp only[hwr]
def VW {u:List (Nat×Ob)} {k:Nat} (h:∀ x∈u,x.1≠k) (M:aY):aK M u k=M k:=by
 induction u generalizing M with
 |nil=>rfl
 |cons x u ih=>
  obtain⟨id,ob⟩:=x;simp only[aK];rw[ih (λy hy=>h y (ubg _ hy)),fu _ _ (Ne.symm (h (id,ob) (by simp)))]
def zep {i j:Nat} {x y:Ob} (h:i≠j) (M:aY):upd (upd M i x) j y=upd (upd M j y) i x:=by
 funext k;unfold upd;by_cases h1:k=i<;>by_cases h2:k=j<;>simp_all
def zes {u:List (Nat×Ob)} {i:Nat} {x:Ob} (h:∀ y∈u,i≠y.1) (M:aY):aK (upd M i x) u=upd (aK M u) i x:=by
 induction u generalizing M with
 |nil=>rfl
 |cons y u ih=>
  obtain⟨id,ob⟩:=y;simp only[aK];rw[zep (h (id,ob) (by simp)),ih (λz hz=>h z (ubg _ hz))]
def zer {u v:List (Nat×Ob)} (h:∀ x∈u,∀ y∈v,x.1≠y.1) (M:aY):aK (aK M u) v=aK (aK M v) u:=by
 induction u generalizing M with
 |nil=>rfl
 |cons x u ih=>
  obtain⟨id,ob⟩:=x;simp only[aK];rw[ih (λy hy z hz=>h y (ubg _ hy) z hz),zes (λy hy=>h (id,ob) (by simp) y hy)]
def D8 {e f:Ef} (h:kb e f=true):(∀ t,e.dst=some t->t ∉ f.rd/\f.dst≠some t)/\(∀ t,f.dst=some t->t ∉ e.rd) /\
  (∀ x∈e.wr,x.1 ∉ f.ks)/\(∀ x∈e.wr,∀ y∈f.wr,x.1≠y.1)/\∀ y∈f.wr,y.1 ∉ e.ks:=by
 unfold kb at h;simp only[uc9] at h;obtain⟨⟨⟨h1,h2⟩,h3⟩,h4⟩:=h;refine⟨λt ht=>?_,λt ht=>?_,λx hx=>?_,λx hx y hy=>?_,λy hy=>?_⟩
 ·rw[ht] at h1;simpa using h1
 ·rw[ht] at h2;simpa using h2
 ·have:=uc6.1 h3 x hx;simp at this;simpa using this.1
 ·have:=uc6.1 h3 x hx;simp only[uc9] at this;have:=uc6.1 this.2 y hy;simpa using this
 ·have:=uc6.1 h4 y hy;simpa using this
def zbx (sl:Nat->AV) {d e:Option Tmp} {x y:AV} (h:∀ t,d=some t->e≠some t):fp (fp sl d x) e y=fp (fp sl e y) d x:=by
 funext t;simp only[AL];by_cases h1:d=some t<;>by_cases h2:e=some t<;>simp_all
def Rp {e f:Ef} (h:kb e f=true) (s:St):f.go (e.go s)=e.go (f.go s):=by
 obtain⟨h1,h2,h3,h4,h5⟩:=D8 h;unfold Ef.go;simp only[St.mk.injEq,true_and];exact⟨zbx _ (λt ht=>(h1 t ht).2),zer h4 _,uT⟩
def PM {ops:List Oper} {o:Oper} {e f:Ef} {s:St} (h:kb e f=true) (hf:eW P Γ b ops o (e.go s).sl (e.go s).mem=some f):eW P Γ b ops o s.sl s.mem=some f:=by
 obtain⟨h1,h2,h3,h4,h5⟩:=D8 h;refine PO hf (λt ht=>?_) (λk hk=>?_)
 ·simp only[Ef.go,AL];rw[if_neg (λhh=>(h1 t hh).1 ht)]
 ·simp only[Ef.go];exact(VW (λx hx hh=>h3 x hx (hh ▸ hk)) _).symm
def PN {ops:List Oper} {o:Oper} {e f:Ef} {s:St} (h:kb e f=true) (he:eW P Γ b ops o s.sl s.mem=some e):eW P Γ b ops o (f.go s).sl (f.go s).mem=some e:=by
 obtain⟨h1,h2,h3,h4,h5⟩:=D8 h;refine PO he (λt ht=>?_) (λk hk=>?_)
 ·simp only[Ef.go,AL];rw[if_neg (λhh=>h2 t hh ht)]
 ·simp only[Ef.go];exact VW (λx hx hh=>h5 x hx (hh ▸ hk)) _
end
end Go.Ab

namespace Go.Ab
open Go Go.RowKit
section
variable {P:Program} {w w':World} {E:Env} {F F':Nat->Prop} {b:Nat} {γ γ' γ0:Nat->Value} {Γ:Gm} {ops:Array Oper} {es:List Ef}
structure StatOK (n:Nat) (ops:Array Oper):Prop where
 lt:∀ (i:Nat) (o:Oper) (t:Nat),ops[i]? = some o->o.dst=some t->t<n
 once:∀ (i j:Nat) (o o':Oper) (t:Nat),ops[i]? = some o->ops[j]? = some o'->o.dst=some t->o'.dst=some t->i=j
 guard:∀ (i:Nat) (o:Oper) (j:Nat) (want:Bool),ops[i]? = some o->o.guard=some (j,want)->j<i/\∃ e∈o.after,e.on=j/\Region.binds .any e=true
 back:∀ (i:Nat) (o:Oper),ops[i]? = some o->∀ e∈o.after,Region.binds .any e=true->e.on<i
def Vg {n:Nat}:(l:List Oper)->(k:Nat)->(W:List Tmp)->rb n k W l=true->∀ (i:Nat) (o:Oper),l[i]? = some o ->
  (∀ t,o.dst=some t->t<n/\t ∉ W/\∀ (i':Nat) (o':Oper),i'<i->l[i']? = some o'->o'.dst≠some t) /\
  (∀ j want,o.guard=some (j,want)->j<k+i/\∃ e∈o.after,e.on=j/\Region.binds .any e=true) /\
  (∀ e∈o.after,Region.binds .any e=true->e.on<k+i)
 |[],_,_,_,i,o,h=>by simp at h
 |x::r,k,W,hs,i,o,h=>by
  simp only[rb,uc9] at hs;obtain⟨⟨⟨h1,h2⟩,h3⟩,h4⟩:=hs;cases i with
  |zero=>
   simp at h;subst h;refine⟨λt ht=>?_,λj want hg=>?_,λe he hb=>?_⟩
   ·rw[ht] at h1;simp at h1;exact⟨h1.1,h1.2,λi' _ hi'=>absurd hi' (Nat.not_lt_zero _)⟩
   ·rw[hg] at h2;simp only[uc9,ucs,List.any_eq_true,ufh] at h2;obtain⟨a,e,he,hb⟩:=h2;exact⟨a,e,ubf.1 he,hb⟩
   ·have:=uc6.1 h3 e (ubf.2 he);rw[hb] at this;simpa using this
  |succ i=>
   obtain⟨g1,g2,g3⟩:=Vg r (k+1) _ h4 i o h;refine⟨λt ht=>?_,λj want hg=>?_,λe he hb=>?_⟩
   ·obtain⟨a,b,c⟩:=g1 t ht;refine⟨a,λhh=>b (ua4 _ hh),λi' o' hi' ho'=>?_⟩;cases i' with
    |zero=>
     simp at ho';subst ho';intro hh;exact b (ubh _ (by simp[hh]))
    |succ i'=>
     exact c i' o' (by omega) ho'
   ·obtain⟨a,b⟩:=g2 j want hg;exact⟨by omega,b⟩
   ·have:=g3 e he hb;omega
def EU {n:Nat} (h:rb n 0 [] ops.toList=true):StatOK n ops:=by
 have hs:=Vg ops.toList 0 [] h;have hget:∀ (i:Nat) (o:Oper),ops[i]? = some o->ops.toList[i]? = some o:=λi o ho=>by simpa using ho
 refine⟨λi o t ho ht=>((hs i o (hget i o ho)).1 t ht).1,λi j o o' t ho ho' ht ht'=>?_,λi o j want ho hg=>?_,λi o ho e he hb=>?_⟩
 ·rcases ucr i j with hlt|heq|hgt
  ·exact absurd ht (((hs j o' (hget j o' ho')).1 t ht').2.2 i o hlt (hget i o ho))
  ·exact heq
  ·exact absurd ht' (((hs i o (hget i o ho)).1 t ht).2.2 j o' hgt (hget j o' ho'))
 ·have:=(hs i o (hget i o ho)).2.1 j want hg;exact⟨by omega,this.2⟩
 ·have:=(hs i o (hget i o ho)).2.2 e he hb;omega
def cz (P:Program) (Γ:Gm) (b:Nat) (ops:Array Oper) (es:List Ef) (s':St):List Nat->St->Prop
 |[],s=>s=s'
 |i::r,s=>∃ o e,ops[i]? = some o/\es[i]? = some e/\eW P Γ b ops.toList o s.sl s.mem=some e/\cz P Γ b ops es s' r (e.go s)
def UB {s':St}:(l:List Oper)->(k:Nat)->(s:St)->(fs:List Ef)->qR P Γ b ops.toList l s=some (fs,s')->(∀ i o,l[i]? = some o->ops[k+i]? = some o) ->
  (∀ i e,fs[i]? = some e->es[k+i]? = some e)->cz P Γ b ops es s' (List.range' k l.length) s
 |[],k,s,fs,h,_,_=>by
  simp only[qR,ucj,uee] at h;exact h.2
 |o::r,k,s,fs,h,ho,he=>by
  simp only[qR] at h;split at h<;>try trivial
  rename_i e heff;split at h<;>try trivial
  rename_i es' s2 hr;cases h;refine⟨o,e,by simpa using ho 0 o rfl,by simpa using he 0 e rfl,heff,?_⟩;refine UB r (k+1) _ es' hr (λi o' hi=>?_) (λi e' hi=>?_)
  ·have:=ho (i+1) o' (by simpa using hi)
   rwa [show k+1+i=k+(i+1) by omega]
  ·have:=he (i+1) e' (by simpa using hi)
   rwa [show k+1+i=k+(i+1) by omega]
def Ag:{l:List Nat}->l.Pairwise (· < ·)->l.Nodup
 |[],_=>List.Pairwise.nil
 |x::r,h=>by
  obtain⟨h1,h2⟩:=ub8.1 h;exact ub8.2 ⟨λy hy=>Nat.ne_of_lt (h1 y hy),Ag h2⟩
def Rh {s':St} {j:Nat}:(rem:List Nat)->(s:St)->cz P Γ b ops es s' rem s->rem.Pairwise (· < ·)->j∈rem ->
  (∀ i∈rem,i<j->∀ e f,es[i]? = some e->es[j]? = some f->kb e f=true) ->
  ∃ o f,ops[j]? = some o/\es[j]? = some f/\eW P Γ b ops.toList o s.sl s.mem=some f/\cz P Γ b ops es s' (rem.erase j) (f.go s)
 |[],_,_,_,hj,_=>by simp at hj
 |i::r,s,hr,hp,hj,hi=>by
  obtain⟨o,e,ho,he,heff,hr'⟩:=hr;by_cases hij:i=j
  ·subst hij;refine⟨o,e,ho,he,heff,?_⟩;rw[ubi];exact hr'
  ·have hjr:j∈r:=by
    rcases ueg.1 hj with h|h
    ·exact absurd h.symm hij
    ·exact h
   have hlt:=(ub8.1 hp).1 j hjr;obtain⟨oj,f,hoj,hfj,hf,hrr⟩:=Rh r (e.go s) hr' (ub8.1 hp).2 hjr (λk hk hkj=>hi k (ubg _ hk) hkj);have hind:=hi i (by simp) hlt e f he hfj;refine⟨oj,f,hoj,hfj,PM hind hf,?_⟩;rw[List.erase_cons_tail (by simpa using hij)];refine⟨o,e,ho,he,PN hind heff,?_⟩;rw[<- Rp hind];exact hrr
def pQ (P:Program) (E:Env) (Γ:Gm) (b:Nat) (ops:Array Oper) (es:List Ef) (s':St) (rem:List Nat) (a:Act) (w:World):Prop:=
 ∃ st W F γ,InvG P E st a w W F γ/\(∀ t,t∈W↔∃ k o,ops[k]? = some o/\k ∉ rem/\o.dst=some t)/\cz P Γ b ops es s' rem st/\st.n=s'.n
def TU (hΓ:hH P Γ) {s':St} {rem:List Nat} {a:Act} (hi:pQ P E Γ b ops es s' rem a w) {j:Nat} (hj:j∈rem) (hp:rem.Pairwise (· < ·))
  (hfront:∀ i∈rem,i<j->∀ e f,es[i]? = some e->es[j]? = some f->kb e f=true) (hguard:∀ o j' want,ops[j]? = some o->o.guard=some (j',want)->j' ∉ rem) (hst:StatOK s'.n ops)
  (hneed:∀ e∈es,aE e.need) (K:Act->World->Prop) (Q:Exit->Act->World->Prop) (hK:∀ a' w',pQ P E Γ b ops es s' (rem.erase j) a' w'->K a' w'):wpOp P ops Q j K a w:=by
 obtain⟨st,W,F,γ,hinv,hW,hruns,hn⟩:=hi;obtain⟨o,f,ho,hf,heff,hr⟩:=Rh rem st hruns hp hj hfront;have hnd:=Ag hp;unfold wpOp;rw[ho];simp only;have key:=K0 hΓ hinv heff (hneed f (ube hf)) (λx hx=>⟨by rw[hn]; exact hst.lt j o x ho hx,λhxW=>by
   obtain⟨k,ok,hok,hk,hd⟩:=(hW x).1 hxW;have:=hst.once j k o ok x ho hok hx hd;subst this;exact hk hj⟩)
  (λj' want g hg hd=>by
   have h1:=hguard o j' want ho hg;cases ho':ops[j']? with
   |none=>rw[ho'] at hd; cases hd
   |some o'=>
    rw[ho'] at hd;exact(hW g).2 ⟨j',o',ho',h1,hd⟩)
  K Q (λa' w' F' γ' hinv'=>hK a' w' ⟨f.go st,_,F',γ',hinv',λt=>?_,hr,hn⟩)
 ·split
  ·rename_i hw;rw[if_pos hw] at key;exact .inl key
  ·rename_i hw;rw[if_neg hw] at key;exact key
 ·have hmem:∀ k,k ∉ rem.erase j↔k=j\/k ∉ rem:=λk=>by
   rw[hnd.mem_erase_iff];constructor
   ·intro h;by_cases hk:k=j
    ·exact .inl hk
    ·exact .inr λh'=>h ⟨hk,h'⟩
   ·rintro(h|h) ⟨h1,h2⟩
    ·exact h1 h
    ·exact h h2
  rw[udq,hW];constructor
  ·rintro(h|⟨k,ok,h1,h2,h3⟩)
   ·exact⟨j,o,ho,(hmem j).2 (.inl rfl),by simpa using h⟩
   ·exact⟨k,ok,h1,(hmem k).2 (.inr h2),h3⟩
  ·rintro⟨k,ok,h1,h2,h3⟩;rcases(hmem k).1 h2 with rfl|h
   ·rw[ho] at h1;cases h1;exact .inl (by simp[h3])
   ·exact .inr ⟨k,ok,h1,h,h3⟩
def T0 {l:List Nat} (h:l.Pairwise (· < ·)) (j:Nat):(l.erase j).Pairwise (· < ·):=h.sublist List.erase_sublist
def TV (hΓ:hH P Γ) {s':St} (hst:StatOK s'.n ops) (hneed:∀ e∈es,aE e.need) (Q:Exit->Act->World->Prop) (hQ:∀ a w,pQ P E Γ b ops es s' [] a w->Q .normal a w) :
  (m k:Nat)->∀ (a:Act) (w:World),pQ P E Γ b ops es s' (List.range' k m) a w->wpOps P ops Q (List.range' k m) a w
 |0,k,a,w,h=>hQ a w h
 |m+1,k,a,w,h=>by
  rw[udb] at h;have hp:(k::List.range' (k+1) m).Pairwise (· < ·):=by
   rw[<- udb];exact uav
  refine TU hΓ h (by simp) hp (λi hi hlt=>?_) (λo j' want ho hg hmem=>?_) hst hneed _ Q (λa' w' h'=>?_)
  ·rw[<- udb,ucu] at hi;omega
  ·have:=(hst.guard k o j' want ho hg).1;rw[<- udb,ucu] at hmem;omega
  ·rw[ubi] at h';exact TV hΓ hst hneed Q hQ m (k+1) a' w' h'
def Kl:(l:List Oper)->(acc:List Nat)->(∀ i,i<acc.length->(gr acc l)[i]? = acc[i]?) /\
  ∀ i o,l[i]? = some o->∃ m,(gr acc l)[acc.length+i]? = some m/\∀ b,m.testBit b=true->∃ e∈o.after,Region.binds .any e=true/\(b=e.on\/((gr acc l).getD e.on 0).testBit b=true)
 |[],acc=>⟨λi hi=>rfl,λi o h=>by simp at h⟩
 |x::r,acc=>by
  simp only[gr];generalize hm:x.after.toList.foldr (λe s=>if Region.binds .any e then 2 ^ e.on ||| acc.getD e.on 0 ||| s else s) 0=m;obtain⟨h1,h2⟩:=Kl r (acc++[m]);have hpre:∀ i,i<acc.length->(gr (acc++[m]) r)[i]? = acc[i]? := λi hi=>by
   rw[h1 i (by simp; omega),uaj hi]
  refine⟨hpre,λi o ho=>?_⟩;cases i with
  |zero=>
   simp at ho;subst ho;refine⟨m,by rw[uex,h1 acc.length (by simp)]; simp,λb hb=>?_⟩;have hfold:∀ (l:List Edge) , (∀ e∈l,e∈x.after)->(l.foldr (λe s=>if Region.binds .any e then 2 ^ e.on ||| acc.getD e.on 0 ||| s else s) 0).testBit b=true ->
     ∃ e∈x.after,Region.binds .any e=true/\(b=e.on\/((gr (acc++[m]) r).getD e.on 0).testBit b=true):=by
    intro l
    induction l with
    |nil=>intro _ h; simp at h
    |cons e l ih=>
     intro hl h;simp only[List.foldr_cons] at h;split at h
     ·rename_i hb';simp only[Nat.testBit_or,Nat.testBit_two_pow,udr,ucs] at h;rcases h with (h|h)|h
      ·exact⟨e,hl e (by simp),hb',.inl h.symm⟩
      ·refine⟨e,hl e (by simp),hb',.inr ?_⟩;by_cases hlt:e.on<acc.length
       ·rw[uah,hpre _ hlt,<- uah];exact h
       ·rw[uah,ua2 (by omega)] at h;simp at h
      ·exact ih (λe' he'=>hl e' (ubg _ he')) h
     ·exact ih (λe' he'=>hl e' (ubg _ he')) h
   exact hfold x.after.toList (λe he=>ubf.1 he) (by rw[hm]; exact hb)
  |succ i=>
   obtain⟨m',h3,h4⟩:=h2 i o ho;refine⟨m',?_,h4⟩;rw[ub4,ua5] at h3
   rwa [show acc.length+(i+1)=acc.length+1+i by omega]
def Tz {k mask:Nat} {f:Ef}:(l:List Ef)->(i0:Nat)->Em k mask f i0 l=true->∀ i e,l[i]? = some e->i0+i<k->mask.testBit (i0+i)=true\/kb e f=true
 |[],_,_,i,e,h,_=>by simp at h
 |x::r,i0,hp,i,e,h,hlt=>by
  simp only[Em] at hp;rw[if_pos (by omega)] at hp;simp at hp;cases i with
  |zero=>
   simp at h;subst h;exact hp.1
  |succ i=>
   have:=Tz r (i0+1) hp.2 i e h (by omega)
   rwa [show i0+(i+1)=i0+1+i by omega]
def Td (h:tf ops.toList es=true) {i j:Nat} {e f:Ef} (hi:es[i]? = some e) (hj:es[j]? = some f) (hlt:i<j) :
  ((gr [] ops.toList).getD j 0).testBit i=true\/kb e f=true:=by
 unfold tf at h;have:=uc6.1 h j (ud7.2 (uak.1 hj).1);rw[hj] at this;cases hm:(gr [] ops.toList)[j]? with
 |none=>rw[hm] at this; cases this
 |some m=>
  rw[hm] at this;have:=Tz es 0 this i e hi (by omega);rw[uah,hm];simpa using this
def TT (hΓ:hH P Γ) {s':St} (hst:StatOK s'.n ops) (hneed:∀ e∈es,aE e.need) (hord:tf ops.toList es=true) (Q:Exit->Act->World->Prop)
  (hQ:∀ a w,pQ P E Γ b ops es s' [] a w->Q .normal a w) :
  (fuel:Nat)->∀ (rem:List Nat) (listed:Array Bool) (a:Act) (w:World),rem.length<=fuel->rem.Pairwise (· < ·)->listed.size=ops.size->(∀ i,i<ops.size->(listed.getD i true=false↔i∈rem))->(∀ i∈rem,i<ops.size) ->
   (∀ k,k<ops.size->k ∉ rem->∀ i,((gr [] ops.toList).getD k 0).testBit i=true->i ∉ rem)->pQ P E Γ b ops es s' rem a w->wpAny P .any ops Q fuel listed a w
 |fuel,[],listed,a,w,_,_,hsz,hl,_,_,hi=>by
  have hnil:Region.ready .any ops listed=[]:=by
   apply List.eq_nil_iff_forall_not_mem.2;intro i hmem;obtain⟨h1,o,ho,_⟩:=ufp.1 hmem;have hlt:=(uaf.1 ho).1;simpa using (hl i hlt).1 h1
  cases fuel with
  |zero=>exact⟨hnil,hQ a w hi⟩
  |succ fuel=>exact⟨λ_=>hQ a w hi,λi hmem=>by rw[hnil] at hmem; simp at hmem⟩
 |0,i::r,_,_,_,hlen,_,_,_,_,_,_=>by simp at hlen
 |fuel+1,i::r,listed,a,w,hlen,hp,hsz,hl,hlt,hmask,hi=>by
  have hready:i∈Region.ready .any ops listed:=by
   have hio:=hlt i (by simp);refine ufp.2 ⟨(hl i hio).2 (by simp),ops[i],by simp,λe he hb=>?_⟩;have hback:=hst.back i ops[i] (by simp) e he hb;have hnot:e.on ∉ i::r:=λhh=>by
    rcases ueg.1 hh with h|h
    ·omega
    ·have:=(ub8.1 hp).1 _ h;omega
   have h1:=λh=>hnot ((hl e.on (by omega)).1 h);have hsz':e.on<listed.size:=by omega
   simp only[uac,uam hsz'] at h1 |-;simpa using h1
  refine⟨λhnil=>by rw[hnil] at hready; simp at hready,λj hj=>?_⟩;obtain⟨hj1,o,ho,hjall⟩:=ufp.1 hj;have hjlt:=(uaf.1 ho).1;have hjrem:=(hl j hjlt).1 hj1;have hlisted:∀ b,listed.getD b false=true->b<ops.size/\b ∉ i::r:=λb hb=>by
   have hbs:b<listed.size:=by
    rcases ueo b listed.size with h|h
    ·exact h
    ·simp[uaz h] at hb
   refine⟨by omega,λhmem=>?_⟩;have:=(hl b (by omega)).2 hmem;simp only[uac,uam hbs,uda] at hb this;rw[hb] at this;cases this
  obtain⟨m,hm1,hm2⟩:=(Kl ops.toList []).2 j o (by simpa using ho);simp at hm1;have hmj:∀ b,((gr [] ops.toList).getD j 0).testBit b=true->b ∉ i::r:=λb hb=>by
   rw[uah,hm1] at hb;obtain⟨e,he,hb',hor⟩:=hm2 b hb;obtain⟨h1,h2⟩:=hlisted e.on (hjall e he hb');rcases hor with rfl|h
   ·exact h2
   ·exact hmask e.on h1 h2 b h
  have hnd:=Ag hp;refine TU hΓ hi hjrem hp (λk hk hkj e f he hf=>?_) (λo' j' want ho' hg hmem=>?_) hst hneed _ Q (λa' w' h'=>?_)
  ·exact(Td hord he hf hkj).resolve_left λh=>hmj k h hk
  ·obtain⟨_,e,he,heq,hb⟩:=hst.guard j o' j' want ho' hg;rw[ho] at ho';cases ho';have:=(hlisted e.on (hjall e he hb)).2;rw[heq] at this;exact this hmem
  ·refine TT hΓ hst hneed hord Q hQ fuel _ (listed.setIfInBounds j true) a' w' ?_ (T0 hp j) (by simpa using hsz) (λk hk=>?_) (λk hk=>hlt k (ua6 hk)) (λk hk hkr b hb=>?_) h'
   ·rw[List.length_erase_of_mem hjrem];omega
   ·rw[hnd.mem_erase_iff];by_cases hkj:j=k
    ·subst hkj;simp[hsz]
    ·simp only[uac,uaa hkj];rw[<- uac,hl k hk];constructor
     ·exact λh=>⟨Ne.symm hkj,h⟩
     ·exact λh=>h.2
   ·rw[hnd.mem_erase_iff] at hkr |-;rintro⟨h1,h2⟩;by_cases hkj:k=j
    ·subst hkj;exact hmj b hb h2
    ·exact hmask k hk (λhh=>hkr ⟨hkj,hh⟩) b hb h2
end
end Go.Ab

namespace Go.Ab
open Go Go.RowKit
section
variable {P:Program} {w w':World} {E:Env} {F F':Nat->Prop} {bs:Nat} {γ γ' γ0:Nat->Value} {Γ:Gm} {es:List Ef} {R:Nat->Value->Prop}
def I (P:Program) (E:Env) (s:St) (a:Act) (w:World):Prop:=∃ F γ,InvG P E s a w [] F γ
def Sh {st:St} {a:Act} {W:List Tmp} (h:InvG P E st a w W F γ):InvG P E st a { w with drawn:=w.drawn+1 } W F γ:=by
 obtain⟨h1,h2,⟨γ0,h3⟩,h4,h5,h6,h7⟩:=h;refine⟨h1,h2,⟨γ0,⟨h3.hF,h3.hw,h3.hR,h3.old,h3.os,h3.tape,h3.output,h3.size,h3.bd,h3.new⟩⟩,⟨λid o ho=>?_,h4.apart⟩,λt=>?_,h6,λt=>aM.mono (w:=w) (w':={ w with drawn:=w.drawn+1 }) (λ_ h=>h) (λ_ _=>rfl) (λ_ _ h=>h) _ (h7 t)⟩
 ·refine(h4.ob id o ho).keep (λ_ h=>h) (λ_ _=>rfl) (λ_ _ h=>h) (λb hb=>⟨rfl,?_⟩);exact(lI (h4.ob id o ho) hb).2.1
 ·exact eL.mono (w:=w) (λ_ h=>h) (λ_ _=>rfl) (λ_ _ h=>h) (h5 t)
def qC {st:St} {a:Act} {W:List Tmp} (h:InvG P E st a w W F γ):InvG P E (iH st) a w [] F γ:=by
 obtain⟨h1,h2,h3,h4,h5,h6,h7⟩:=h;refine⟨h1,h2,h3,h4,λt=>?_,λt g want v ht=>?_,h7⟩
 ·have:=h5 t;show eL P w F _ _ (jh st.sl t) _;unfold jh;split
  ·trivial
  ·exact this
 ·exfalso;have ht':jh st.sl t = .maybe g want v:=ht;unfold jh at ht';split at ht'
  ·cases ht'
  ·rename_i hne;exact hne _ _ _ ht'
def U4 {ops:List Oper} {s':St}:(l:List Oper)->(s:St)->(fs:List Ef)->qR P Γ bs ops l s=some (fs,s')->s'.n=s.n
 |[],s,fs,h=>by
  simp only[qR,ucj,uee] at h;rw[h.2]
 |o::r,s,fs,h=>by
  simp only[qR] at h;split at h<;>try trivial
  split at h<;>try trivial
  rename_i es' s2 hr;cases h;have:=U4 r _ es' hr;exact this
def Tr.sat (Q:XE->St->Prop):Tr->Prop
 |.leaf e s=>Q e s
 |.br b x y=>(b=true->x.sat Q)/\(b=false->y.sat Q)
 |.need p x=>p/\x.sat Q
 |.two p x y=>(p->x.sat Q)/\y.sat Q
def xT {Q Q':XE->St->Prop} (h:∀ e s,Q e s->Q' e s):{t:Tr}->t.sat Q->t.sat Q'
 |.leaf _ _,hq=>h _ _ hq
 |.br _ _ _,hq=>⟨λhb=>xT h (hq.1 hb),λhb=>xT h (hq.2 hb)⟩
 |.need _ _,hq=>⟨hq.1,xT h hq.2⟩
 |.two _ _ _,hq=>⟨λhb=>xT h (hq.1 hb),xT h hq.2⟩
def kW {Q:XE->St->Prop} {t:Tr}:(ns:List Prop)->(needL ns t).sat Q->aE ns/\t.sat Q
 |[],h=>⟨uT,h⟩
 |p::ns,h=>by
  have h':=h;obtain⟨h1,h2⟩:=kW ns h'.2;exact⟨jS.2 ⟨h'.1,h1⟩,h2⟩
def Kr {Q:XE->St->Prop} {t:Tr}:(es:List Ef)->(DV es t).sat Q->(∀ e∈es,aE e.need)/\t.sat Q
 |[],h=>⟨λ_ he=>by simp at he,h⟩
 |e::es,h=>by
  have h':=kW _ h;obtain⟨h1,h2⟩:=Kr es h'.2;exact⟨λx hx=>by
   rcases ueg.1 hx with rfl|hx
   ·exact h'.1
   ·exact h1 x hx,h2⟩
def XE.ex:XE->Exit
 |.normal=>.normal
 |.exit id=>.exit id
 |.ret=>.ret
 |.panic p=>.panic [{ v:=p.val,recovered:=false }]
 |.val _=>.goto 0
 |.jump l=>.goto l
def fb (P:Program) (E:Env) (Q:XE->St->Prop) (e:Exit) (a:Act) (w:World):Prop:=∃ x s,x.ex=e/\I P E s a w/\Q x s
def Ga (P:Program) (E:Env) (a:Act) (Q:XE->St->Prop) (e:Ending) (w':World):Prop:=
 ∃ x s' F' γ',Q x s'/\InvG P E s' a w' [] F' γ'/\match x with
  |.val v=>∃ u,e = .returned u/\aM P w' F' (aA s'.mem γ') v u
  |.panic p=>e = .panicked [{ v:=p.val,recovered:=false }]
  |_=>False
def kv (P:Program) (K:Nat->FuncId->List AV->St->Option Tr):Prop:=
 ∀ d f args s t,K d f args s=some t->(∀ args w,(callFunc f args).run P w = .ok (.enter f args) w) /\
  ∀ (E:Env) (a:Act) (w:World) (F:Nat->Prop) (γ:Nat->Value) (vs:List Value) (Q:XE->St->Prop),InvG P E s a w [] F γ->bC P w F (aA s.mem γ) args vs->t.sat Q->Calls P f vs.toArray w (Ga P E a Q)
structure CxOK (P:Program) (C:Cx):Prop where
 mo:P.follows .mixedOrders=true
 ct:hH P C.Γ
 pc:∀ f pc,C.Pi f=some pc->kz P f pc
 kk:kv P C.K
def InvG.weaken {st:St} {a:Act} (h:InvG P E st a w [] F γ) (W:List Tmp):InvG P E st a w W F γ:=
 ⟨h.n,h.df,h.step,h.mem,h.sl,λt g want v ht=>absurd (h.hg t g want v ht) (by simp),h.gh⟩
def EA {tm:Tmp->Value}:{xs:List AV} -> {vs:List Value}->pR P w F R tm xs vs->xs.all iS=true->bC P w F R xs vs
 |[],[],_,_=>trivial
 |x::xs,v::vs,h,hn=>by
  simp only[ueh,uc9] at hn;exact⟨h.1.plain hn.1,EA h.2 hn.2⟩
def O8 {caps:List AC} {arr:Array Value} (h1:arr.size=caps.length) (h2:aR P w F R caps (λj u=>arr[j]? = some u)):bC P w F R (caps.map .c) arr.toList:=by
 have:∀ (caps:List AC) (l:List Value),l.length=caps.length->aR P w F R caps (λj u=>l[j]? = some u)->bC P w F R (caps.map .c) l:=by
  intro caps
  induction caps with
  |nil=>
   intro l hl _;cases l with
   |nil=>trivial
   |cons _ _=>simp at hl
  |cons c r ih=>
   intro l hl h;cases l with
   |nil=>simp at hl
   |cons v l=>
    obtain⟨⟨u,h1,h2,h3⟩,h4⟩:=h;simp at h1;subst h1;exact⟨⟨h2,h3⟩,ih l (by simpa using hl) (by simpa using h4)⟩
 exact this caps arr.toList (by simpa using h1) (by simpa using h2)
def EB:{xs ys:List AV} -> {vs us:List Value}->bC P w F R xs vs->bC P w F R ys us->bC P w F R (xs++ys) (vs++us)
 |[],_,[],_,_,h=>h
 |_::_,_,_::_,_,h,k=>⟨h.1,EB h.2 k⟩
def KT {tm:Tmp->Value}:{x:AV} -> {u:Value}->aM P w F R x u->eL P w F R tm x u
 |.dead,_,h=>h
 |.c _,_,h=>h
 |.agg _,_,h=>h
 |.tup _,_,h=>h
 |.optr _ _ _ _,_,h=>h
 |.aptr _ _ _,_,h=>h
 |.maybe _ _ _,_,h=>h.elim
def Tr.sat.turn {Q Q':XE->St->Prop} {t:Tr} (h:t.sat Q) (hq:∀ e s,Q e s->Q' e s):t.sat Q':=xT hq h
def Ks {A:Option Addr} {n c d:Nat} {el t:TypeId} (hu:P.underlying t=some (.slice el)):(Op.equalIn (d+1) t (.slice A n c) (.slice none 0 0)).run P w = .ok A.isNone w:=by
 cases A<;>simp[Op.equalIn,ud3 hu]
def quf {A:Option Addr} {n c:Nat} {el t:TypeId} (hu:P.underlying t=some (.slice el)) (x y:Operand) :
  (do eqGuard .eql t x y (.slice A n c) (.slice none 0 0); binOp .eql t (.slice A n c) (.slice none 0 0):Sem Value).run P w = .ok (.bool A.isNone) w:=by
 have h1:binOp .eql t (.slice A n c) (.slice none 0 0)=(do pure (.bool (<- Op.equal t (.slice A n c) (.slice none 0 0)))):=rfl;have h2:Op.equal t (.slice A n c) (.slice none 0 0)=Op.equalIn (9999+1) t (.slice A n c) (.slice none 0 0):=rfl;have h3:=Ks (w:=w) (A:=A) (n:=n) (c:=c) (d:=9999) hu;rw[h1,h2];simp[eqGuard,h3]
def UY {C:Cx} (hC:CxOK P C) {o:Oper} {st:St} {a:Act} {W:List Tmp} {t:Tr} {b:Nat} (hi:InvG P E st a w W F γ) (h:AM P C b o st=some t) (K:Act->World->Prop) (Q:Exit->Act->World->Prop)
  (hq:t.sat λx s'=>match x with
   |.val v=>∀ u w' F' γ',InvG P E s' a w' [] F' γ'->aM P w' F' (aA s'.mem γ') v u->K (a.put o.dst u) w'
   |.panic p=>∀ w',I P E s' a w'->Q (.panic [{ v:=p.val,recovered:=false }]) a w'
   |_=>True):o.guard=none/\o.wp P a w K Q:=by
 have hcl:=qC hi;unfold AM at h;split at h<;>try trivial
 rotate_left
 ·rename_i t0 x0 y0 yt T l hg ho hvs;split at h<;>try (simp at h; done)
  rename_i el hu;simp at h;subst h;refine⟨hg,?_⟩;have hev:=vS hi.sl o.op.operands.toList;rw[hvs] at hev;have hops:o.op.operands.toList.map a.eval=[a.eval x0,a.eval y0]:=by simp[ho,Op.operands]
  rw[hops] at hev;obtain⟨⟨_,A,c,e1,e2,e3,e4⟩,⟨_,e5⟩,_⟩:=hev;have e1':=e1.symm;have e5':=e5;have hrun:(execOp a.eval o).run P w = .ok (.value (.bool A.isNone)) w:=by
   refine e8 (by unfold execOp; rw[ho]) ?_;rw[e1',e5'];exact quf hu x0 y0
  unfold Oper.wp;rw[hrun];cases A with
  |none=>
   have hl:l=[]:=by
    cases l with
    |nil=>rfl
    |cons x r=>obtain⟨ad,h,_⟩:=e4 0 x rfl; cases h
   exact hq.1 hl _ w F γ hcl ⟨rfl,rfl⟩
  |some ad=>exact hq.2 _ w F γ hcl ⟨rfl,rfl⟩
 rename_i f0 cargs ts f caps args hg ho hvs;refine⟨hg,?_⟩;have hev:=vS hi.sl o.op.operands.toList;rw[hvs] at hev;have hops:o.op.operands.toList.map a.eval=a.eval f0::(cargs.map a.eval).toList:=by simp[ho,Op.operands,Call.operands]
 rw[hops] at hev;obtain⟨⟨_,hfv⟩,hargs⟩:=hev;obtain⟨cv,e1,e2,e3⟩:=hfv;have hcaps:=O8 e2 e3;have hrun:(∀ args w,(callFunc f args).run P w = .ok (.enter f args) w)->(execOp a.eval o).run P w = .ok (.enter f (cargs.map a.eval++cv)) w:=λhen=>by
  unfold execOp;rw[ho];simp[resolve,e1,Deferred.ofValue,invoke,hen]
 have harr:((cargs.map a.eval).toList++cv.toList).toArray=cargs.map a.eval++cv:=by simp
 split at h
 ·rename_i pc hpc;split at h<;>try trivial
  rename_i xs u hrs;split at h<;>try trivial
  rename_i x n hdec;cases h;obtain⟨hn,hq⟩:=kW _ hq;obtain⟨hn1,hn2⟩:=lB.1 hn;have hall:(args++caps.map AV.c).all iS=true:=by
   have:∀ (l:List AV) (u:List Value),(∃ xs u',eF st.mem l=some (xs,u'))->l.all iS=true:=by
    intro l
    induction l with
    |nil=>intros; rfl
    |cons y l ih=>
     rintro us ⟨xs,u',hx⟩;simp only[eF] at hx;split at hx<;>try trivial
     rename_i h1 h2;simp only[ueh,uc9];refine⟨?_,ih [] ⟨_,_,h2⟩⟩;cases y<;>first|rfl|(simp[qQ] at h1)
   exact this _ [] ⟨_,_,hrs⟩
  have hargs':bC P w F (aA st.mem γ) (args++caps.map AV.c) ((cargs.map a.eval).toList++cv.toList):=by
   refine EB (EA hargs ?_) hcaps;rw[udl,uc9] at hall;exact hall.1
  obtain⟨F1,s1,m1,_,r1⟩:=ko hi.mem (eo hi) (g6 λ_ _ h=>h) hrs hargs';have hps:=sy hC.ct hdec hn1 r1;obtain⟨hen,hcalls⟩:=hC.pc f pc hpc;have hc:=hcalls w F1 x _ s1.bd hps hn2;unfold Oper.wp;rw[hrun hen];rw[harr] at hc;have hstate:∀ w2 F2,(∀ b,F1 b->F2 b)->(∀ b,F2 b->(F1 b\/w.heap.size<=b)/\b<w2.heap.size)->Below w.heap.size w w2->InvG P E (iH ⟨st.n,st.sl,aK st.mem u,st.gs⟩) a w2 [] F2 γ:=λw2 F2 hF2 hF2' hbel=>by
   obtain⟨s2,m2⟩:=Step.below m1 (rL hi) s1.bd hbel hF2 hF2';have s3:=s1.trans s2;refine qC ⟨hi.n,hi.df,?_,m2,λt=>(hi.sl t).mono s3.hF s3.hw s3.hR,hi.hg,λt=>s3.repA (hi.gh t)⟩;obtain⟨γ0,h0⟩:=hi.step;exact⟨γ0,h0.trans s3⟩
  refine hc.mono λe w2 hp=>?_;rcases hp with ⟨hbad,v2,F2,rfl,hbel,hF2,hF2',hrep⟩|⟨hbad,rfl,hbel⟩
  ·exact hq.2 hbad v2 w2 F2 γ (hstate w2 F2 hF2 hF2' hbel) (CR hrep)
  ·exact hq.1 hbad w2 ⟨F1,γ,hstate w2 F1 (λ_ h=>h) (λb hb=>⟨.inl hb,ub9 (s1.bd b hb) hbel.size⟩) hbel⟩
 ·
  split at h<;>try trivial
  rename_i hall;obtain⟨hen,hcalls⟩:=hC.kk _ _ _ _ _ h;have hargs':=EB (EA hargs hall) hcaps;have hc:=hcalls E a w F γ _ _ hcl hargs' hq;unfold Oper.wp;rw[hrun hen];rw[harr] at hc;refine hc.mono λe w2 hp=>?_;obtain⟨x,s',F',γ',hx,hinv,hend⟩:=hp;cases x with
  |val v=>
   obtain⟨u,rfl,hu⟩:=hend;exact hx u w2 F' γ' hinv hu
  |panic p=>
   have he:e = .panicked [{ v:=p.val,recovered:=false }]:=hend;subst he;exact hx w2 ⟨F',γ',hinv⟩
  |normal=>exact hend.elim
  |exit _=>exact hend.elim
  |ret=>exact hend.elim
  |jump _=>exact hend.elim
def uv {f:AV->St->Option Tr} {Q:XE->St->Prop}:{t t':Tr}->t.bindV f=some t'->t'.sat Q->t.sat λe s=>match e with
  |.val v=>∃ u,f v s=some u/\u.sat Q
  |.panic p=>Q (.panic p) s
  |_=>False
 |.leaf e s,t',h,hq=>by
  cases e with
  |val v=>exact⟨t',h,hq⟩
  |panic p=>
   simp only[Tr.bindV,ucj] at h;subst h;exact hq
  |normal=>simp[Tr.bindV] at h
  |exit _=>simp[Tr.bindV] at h
  |ret=>simp[Tr.bindV] at h
  |jump _=>simp[Tr.bindV] at h
 |.br b x y,t',h,hq=>by
  simp only[Tr.bindV] at h;split at h<;>try trivial
  rename_i x' y' hx hy;cases h;exact⟨λhb=>uv hx (hq.1 hb),λhb=>uv hy (hq.2 hb)⟩
 |.need p x,t',h,hq=>by
  simp only[Tr.bindV] at h;split at h<;>try trivial
  rename_i x' hx;cases h;exact⟨hq.1,uv hx hq.2⟩
 |.two p x y,t',h,hq=>by
  simp only[Tr.bindV] at h;split at h<;>try trivial
  rename_i x' y' hx hy;cases h;exact⟨λhb=>uv hx (hq.1 hb),uv hy hq.2⟩
def K1 {C:Cx} (hC:CxOK P C) {ops:Array Oper} {n:Nat} (hst:StatOK n ops) {Q:XE->St->Prop}:(l:List Oper)->(k:Nat)->(∀ i o,l[i]? = some o->ops[k+i]? = some o)->∀ (st:St) (a:Act) (w:World) (W:List Tmp) (F:Nat->Prop) (γ:Nat->Value) (t:Tr),
  InvG P E st a w W F γ->st.n=n->(∀ x,x∈W↔∃ i o,i<k/\ops[i]? = some o/\o.dst=some x)->w9 P C bs ops.toList l st=some t->t.sat Q->wpOps P ops (fb P E Q) (List.range' k l.length) a w
 |[],k,_,st,a,w,W,F,γ,t,hi,hn,hW,h,hq=>by
  simp only[w9,ucj] at h;subst h;exact⟨.normal,_,rfl,⟨F,γ,qC hi⟩,hq⟩
 |o::r,k,hl,st,a,w,W,F,γ,t,hi,hn,hW,h,hq=>by
  have hok:ops[k]? = some o:=by simpa using hl 0 o rfl
  have hl':∀ i o,r[i]? = some o->ops[k+1+i]? = some o:=λi o' hi'=>by
   have:=hl (i+1) o' (by simpa using hi')
   rwa [show k+1+i=k+(i+1) by omega]
  have hd:∀ x,o.dst=some x->x<st.n/\x ∉ W:=λx hx=>⟨by rw[hn]; exact hst.lt k o x hok hx,λhxW=>by
   obtain⟨i,oi,hik,hoi,hdi⟩:=(hW x).1 hxW;have:=hst.once k i o oi x hok hoi hx hdi;omega⟩
  have hW':∀ x,x∈o.dst.toList++W↔∃ i oi,i<k+1/\ops[i]? = some oi/\oi.dst=some x:=λx=>by
   rw[udq,hW];constructor
   ·rintro(h|⟨i,oi,h1,h2,h3⟩)
    ·exact⟨k,o,by omega,hok,by simpa using h⟩
    ·exact⟨i,oi,by omega,h2,h3⟩
   ·rintro⟨i,oi,h1,h2,h3⟩;by_cases hik:i=k
    ·subst hik;rw[hok] at h2;cases h2;exact .inl (by simp[h3])
    ·exact .inr ⟨i,oi,by omega,h2,h3⟩
  rw[uc7,udb,wpOps_cons];unfold wpOp;rw[hok];simp only;simp only[w9] at h;split at h
  ·rename_i e he;split at h<;>try trivial
   rename_i t' ht';cases h;obtain⟨hne,hq⟩:=kW _ hq;have key:=K0 hC.ct hi he hne hd (λj want g hg hdj=>by
    have hj:=(hst.guard k o j want hok hg).1;cases ho':ops[j]? with
    |none=>rw[ho'] at hdj; cases hdj
    |some o'=>
     rw[ho'] at hdj;exact(hW g).2 ⟨j,o',hj,ho',hdj⟩) (wpOps P ops (fb P E Q) (List.range' (k+1) r.length)) (fb P E Q)
    (λa' w' F' γ' hinv=>K1 hC hst r (k+1) hl' _ a' w' _ F' γ' t' hinv hn hW' ht' hq)
   split
   ·rename_i hw;rw[if_pos hw] at key;exact .inl key
   ·rename_i hw;rw[if_neg hw] at key;exact key
  ·split at h<;>try trivial
   rename_i t1 ht1;have hsat:=uv h hq;obtain⟨hg,hwp⟩:=UY hC hi ht1 (wpOps P ops (fb P E Q) (List.range' (k+1) r.length)) (fb P E Q) (hsat.turn λx s' hx=>by
    cases x with
    |val v=>
     obtain⟨u,hu,hqu⟩:=hx;intro v2 w2 F2 γ2 hinv hrep;have hn2:s'.n=n:=by
      have h1:=hinv.n;have h2:=hi.n;omega
     have hput:=ng (wr:=[]) (hinv.weaken W) (λx hx=>⟨by rw[hn2]; exact hst.lt k o x hok hx,(hd x hx).2⟩) (Step.refl (eo hinv)) hinv.mem (KT hrep) (λg want y hv=>by
      subst hv;exact hrep.elim)
     exact K1 hC hst r (k+1) hl' _ _ w2 _ F2 γ2 u hput hn2 hW' hu hqu
    |panic p=>exact λw2 hinv=>⟨.panic p,s',rfl,hinv,hx⟩
    |normal=>trivial
    |exit _=>trivial
    |ret=>trivial
    |jump _=>trivial)
   have hw:Region.wanted o (yielded ops a.tmps)=true:=by simp[Region.wanted,hg]
   rw[if_pos hw];exact .inl hwp
def qv6 (hΓ:hH P Γ) {o:Oper} {ops:Array Oper} {st:St} {a:Act} {W:List Tmp} {e:Ef} (hg:o.guard=none) (hi:InvG P E st a w W F γ) (he:eW P Γ bs ops.toList o st.sl st.mem=some e) (hn:aE e.need)
  (hd:∀ x,o.dst=some x->x<st.n/\x ∉ W) (K:Act->World->Prop) (Q:Exit->Act->World->Prop)
  (hK:∀ u w' F' γ',InvG P E (e.go st) (a.put o.dst u) w' (o.dst.toList++W) F' γ'->K (a.put o.dst u) w'):o.wp P a w K Q:=by
 have hrest:∀ (ks:List Nat) (i:Nat) (y:Ob),kj ks st.mem i=some y->st.mem i=some y:=by
  intro ks i y h;unfold kj at h;split at h
  ·exact h
  ·cases h
 have hrd:∀ (ks:List Nat) (d:Nat),kj (d::ks) st.mem d=none->st.mem d=none:=by
  intro ks d h;unfold kj at h;simpa using h
 unfold eW at he;rw[hg] at he;simp only at he;split at he<;>try trivial
 rename_i ef hcore;cases he;have howes:=H4 hΓ rfl hi.mem (eo hi) (rL hi) (hrest _) (hrd _ _) hcore hn (vS hi.sl _);refine howes K Q λu w' F' γ' hs hm ha=>hK u w' F' γ' ?_;have hnm:iS ef.v=true:=by
  cases hv:ef.v with
  |maybe _ _ _=>rw[hv] at ha; exact ha.elim
  |_=>rfl
 refine ng hi hd hs hm ?_ (λg want y hv=>by have hv':ef.v=_:=hv; rw[hv'] at hnm; cases hnm);cases hv:ef.v with
 |maybe _ _ _=>rw[hv] at hnm; cases hnm
 |_=>rw[hv] at ha; exact ha
def kw (a:Act) (W:List Tmp) (kn:List (Tmp×Bool)):Prop:=∀ x∈kn,x.1∈W/\a.tmps.getD x.1 undef = .bool x.2
def Kc:{kn:List (Tmp×Bool)} -> {t:Tmp} -> {v:Bool}->wq kn t=some v->(t,v)∈kn
 |[],_,_,h=>by simp[wq] at h
 |(x,c)::r,t,v,h=>by
  simp only[wq] at h;split at h
  ·rename_i hx;injection h with h
   subst hx;subst h;exact uca
  ·exact ubg _ (Kc h)
def Ca {a:Act} {W:List Tmp} {kn:List (Tmp×Bool)} (hk:kw a W kn) {x:Operand} {c:Bool} (h:BZ kn x=some c):a.eval x = .bool c:=by
 unfold BZ at h;split at h
 ·exact(hk _ (Kc h)).2
 ·cases h;rfl
 ·cases h
def qni {a:Act} {W:List Tmp} {kn:List (Tmp×Bool)} (hk:kw a W kn) {o:Oper} {x:Operand} (h:J2 kn o.op=some x):(execOp a.eval o).run P w = .ok (.value (a.eval x)) w:=by
 unfold J2 at h;split at h
 ·rename_i y ho;cases h;unfold execOp;rw[ho];simp
 ·rename_i c y z ho;split at h
  ·rename_i hc;cases h;have hv:=Ca hk hc;unfold execOp;rw[ho];simp[hv,asBool]
  ·rename_i hc;cases h;have hv:=Ca hk hc;unfold execOp;rw[ho];simp[hv,asBool]
  ·cases h
 ·cases h
def kw.put {a:Act} {W:List Tmp} {kn:List (Tmp×Bool)} {d:Option Tmp} {u:Value} (hk:kw a W kn) (hd:∀ x,d=some x->x<a.tmps.size/\x ∉ W):kw (a.put d u) (d.toList++W) kn:=λx hx=>by
 obtain⟨h1,h2⟩:=hk x hx;refine⟨ua4 _ h1,?_⟩;rw[E6 a d u x.1 (λy hy=>(hd y hy).1),if_neg (λhe=>(hd x.1 he).2 h1)];exact h2
def qvx {C:Cx} (hC:CxOK P C) {ops:Array Oper} {n:Nat} {Q:XE->St->Prop} {o:Oper} {kn:List (Tmp×Bool)} {st:St} {a:Act} {W:List Tmp} {kf:List (Tmp×Bool)->St->Option Tr} {t:Tr} (K:Act->World->Prop)
  (hi:InvG P E st a w W F γ) (hk:kw a W kn) (hn:st.n=n) (hd:∀ x,o.dst=some x->x<st.n/\x ∉ W) (h:w8 P C bs ops.toList kn o st kf=some t) (hq:t.sat Q)
  (hcont:∀ kn' st' a' w' F' γ' t',kf kn' st'=some t'->t'.sat Q->InvG P E st' a' w' (o.dst.toList++W) F' γ'->kw a' (o.dst.toList++W) kn'->st'.n=n->K a' w'):o.wp P a w K (fb P E Q):=by
 have hsz:∀ x,o.dst=some x->x<a.tmps.size/\x ∉ W:=λx hx=>by rw[hi.n]; exact hd x hx
 have hother:∀ t,(match eW P C.Γ bs ops.toList (zJ o) st.sl st.mem with
   |some e=>match kf kn (e.go st) with
    |some t=>some (needL e.need t)
    |none=>none
   |none=>match AM P C bs (zJ o) st with
    |some t=>t.bindV λv s'=>kf kn ⟨s'.n,fp s'.sl o.dst v,s'.mem,s'.gs⟩
    |none=>none)=some t->t.sat Q->o.wp P a w K (fb P E Q):=by
  intro t h hq;split at h
  ·rename_i e he;split at h<;>try trivial
   rename_i t' ht';cases h;obtain⟨hne,hq⟩:=kW _ hq;exact qv6 hC.ct rfl hi he hne hd K _ λu w' F' γ' hinv=>hcont kn _ _ w' F' γ' t' ht' hq hinv (hk.put hsz) hn
  ·split at h<;>try trivial
   rename_i t1 ht1;have hsat:=uv h hq;refine(UY hC hi ht1 K (fb P E Q) (hsat.turn λx s' hx=>?_)).2;cases x with
   |val v=>
    obtain⟨u,hu,hqu⟩:=hx;intro v2 w2 F2 γ2 hinv hrep;have hn2:s'.n=n:=by
     have h1:=hinv.n;have h2:=hi.n;omega
    have hput:=ng (wr:=[]) (hinv.weaken W) (λx hx=>⟨by rw[hn2,<- hn]; exact(hd x hx).1,(hd x hx).2⟩) (Step.refl (eo hinv)) hinv.mem (KT hrep) (λg want y hv=>by
     subst hv;exact hrep.elim)
    exact hcont kn _ _ w2 F2 γ2 u hu hqu hput (hk.put hsz) hn2
   |panic p=>exact λw2 hinv=>⟨.panic p,s',rfl,hinv,hx⟩
   |normal=>trivial
   |exit _=>trivial
   |ret=>trivial
   |jump _=>trivial
 unfold w8 at h;split at h
 ·rename_i x d hx hdst;have hrun:=qni (P:=P) (w:=w) hk hx;have hwp:K (a.put o.dst (a.eval x)) w->o.wp P a w K (fb P E Q):=λhK=>by
   unfold Oper.wp;rw[hrun];exact hK
  have hx1:=CW hi.sl x;split at h
  ·rename_i c hc;refine hwp (hcont _ _ _ w F γ t h hq ?_ ?_ hn)
   ·have hv:=Ca hk hc;rw[hv,<- hdst];exact ng (wr:=[]) hi hd (Step.refl (eo hi)) hi.mem (show eL P w F _ _ (AV.c (.bool c)) (.bool c) from ⟨rfl,rfl⟩) (λg want y hv=>by cases hv)
   ·intro y hy;rcases ueg.1 hy with rfl|hy
    ·refine⟨by simp[hdst],?_⟩;rw[E6 a o.dst _ d (λy hy=>(hsz y hy).1),if_pos hdst];exact Ca hk hc
    ·exact hk.put hsz y hy
  ·split at h
   ·cases h
   ·rename_i v hnm;refine hwp (hcont _ _ _ w F γ t h hq ?_ (hk.put hsz) hn);have hnv:iS (gN st.sl x)=true:=by
     cases hv:gN st.sl x with
     |maybe g want y=>exact absurd hv (hnm g want y)
     |_=>rfl
    rw[<- hdst];exact ng (wr:=[]) hi hd (Step.refl (eo hi)) hi.mem (KT (hx1.plain hnv)) (λg want y hv=>by rw[hv] at hnv; cases hnv)
 ·exact hother t h hq
def K2 {C:Cx} (hC:CxOK P C) {ops:Array Oper} {n:Nat} (hst:StatOK n ops) {Q:XE->St->Prop}:(l:List Oper)->(k:Nat)->(∀ i o,l[i]? = some o->ops[k+i]? = some o)->∀ (kn:List (Tmp×Bool)) (st:St) (a:Act) (w:World) (W:List Tmp) (F:Nat->Prop) (γ:Nat->Value) (t:Tr),
  InvG P E st a w W F γ->kw a W kn->st.n=n->(∀ x,x∈W↔∃ i o,i<k/\ops[i]? = some o/\o.dst=some x)->lU P C bs ops.toList kn l st=some t->t.sat Q->wpOps P ops (fb P E Q) (List.range' k l.length) a w
 |[],k,_,kn,st,a,w,W,F,γ,t,hi,hk,hn,hW,h,hq=>by
  simp only[lU,ucj] at h;subst h;exact⟨.normal,_,rfl,⟨F,γ,qC hi⟩,hq⟩
 |o::r,k,hl,kn,st,a,w,W,F,γ,t,hi,hk,hn,hW,h,hq=>by
  have hok:ops[k]? = some o:=by simpa using hl 0 o rfl
  have hl':∀ i o,r[i]? = some o->ops[k+1+i]? = some o:=λi o' hi'=>by
   have:=hl (i+1) o' (by simpa using hi')
   rwa [show k+1+i=k+(i+1) by omega]
  have hd:∀ x,o.dst=some x->x<st.n/\x ∉ W:=λx hx=>⟨by rw[hn]; exact hst.lt k o x hok hx,λhxW=>by
   obtain⟨i,oi,hik,hoi,hdi⟩:=(hW x).1 hxW;have:=hst.once k i o oi x hok hoi hx hdi;omega⟩
  have hW':∀ x,x∈o.dst.toList++W↔∃ i oi,i<k+1/\ops[i]? = some oi/\oi.dst=some x:=λx=>by
   rw[udq,hW];constructor
   ·rintro(h|⟨i,oi,h1,h2,h3⟩)
    ·exact⟨k,o,by omega,hok,by simpa using h⟩
    ·exact⟨i,oi,by omega,h2,h3⟩
   ·rintro⟨i,oi,h1,h2,h3⟩;by_cases hik:i=k
    ·subst hik;rw[hok] at h2;cases h2;exact .inl (by simp[h3])
    ·exact .inr ⟨i,oi,by omega,h2,h3⟩
  have hon:∀ kn' t',kw a W kn'->w8 P C bs ops.toList kn' o st (λkn s=>lU P C bs ops.toList kn r s)=some t'->t'.sat Q->o.wp P a w (wpOps P ops (fb P E Q) (List.range' (k+1) r.length)) (fb P E Q):=λkn' t' hk' h' hq'=>
   qvx hC (wpOps P ops (fb P E Q) (List.range' (k+1) r.length)) hi hk' hn hd h' hq' λkn2 st2 a2 w2 F2 γ2 t2 h2 hq2 hi2 hk2 hn2=>K2 hC hst r (k+1) hl' kn2 st2 a2 w2 _ F2 γ2 t2 hi2 hk2 hn2 hW' h2 hq2
  have hsz:∀ x,o.dst=some x->x<a.tmps.size/\x ∉ W:=λx hx=>by rw[hi.n]; exact hd x hx
  have hoff:∀ kn' t',kw a W kn'->lU P C bs ops.toList kn' r ⟨st.n,fp st.sl o.dst .dead,st.mem,st.gs⟩=some t'->t'.sat Q->wpOps P ops (fb P E Q) (List.range' (k+1) r.length) (a.put o.dst undef) w:=λkn' t' hk' h' hq'=>
   K2 hC hst r (k+1) hl' kn' _ _ w _ F γ t' (ng (wr:=[]) (v:=.dead) hi hd (Step.refl (eo hi)) hi.mem trivial (λg want y hv=>by cases hv)) (hk'.put hsz) hn hW' h' hq'
  rw[uc7,udb,wpOps_cons];unfold wpOp;rw[hok];simp only;simp only[lU] at h;split at h
  ·rename_i hg;have hw:Region.wanted o (yielded ops a.tmps)=true:=by simp[Region.wanted,hg]
   rw[if_pos hw];exact .inl (hon kn t hk h hq)
  ·rename_i j want hgd;split at h<;>try trivial
   rename_i g hg;have hgj:(ops[j]?).bind (·.dst)=some g:=by simpa using hg
   have hgW:g∈W:=by
    have hj:=(hst.guard k o j want hok hgd).1;cases ho':ops[j]? with
    |none=>rw[ho'] at hgj; cases hgj
    |some o'=>
     rw[ho'] at hgj;exact(hW g).2 ⟨j,o',hj,ho',hgj⟩
   have hyield:Region.wanted o (yielded ops a.tmps)=true↔a.tmps.getD g undef = .bool want:=by
    have:(yielded ops a.tmps j==some want)=true↔a.tmps.getD g undef = .bool want:=by
     unfold yielded;rw[hgj];simp;cases hx:a.tmps[g]? with
     |none=>simp[hx,undef]
     |some y=>
      simp only[uac,hx,uda];cases y<;>simp
    simpa[Region.wanted,hgd] using this
   have hval:∀ v,a.tmps.getD g undef = .bool v->∀ kn',kw a W kn'->kw a W ((g,v)::kn'):=λv hv kn' hk' y hy=>by
    rcases ueg.1 hy with rfl|hy
    ·exact⟨hgW,hv⟩
    ·exact hk' y hy
   split at h
   ·rename_i v hv;have hgv:=(hk _ (Kc hv)).2;split at h
    ·rename_i hvw;subst hvw;rw[if_pos (hyield.2 hgv)];exact .inl (hon kn t hk h hq)
    ·rename_i hvw;rw[if_neg (λhw=>hvw (by have:=hyield.1 hw; rw[hgv] at this; cases this; rfl))];exact hoff kn t hk h hq
   ·split at h<;>try trivial
    rename_i p hsl;split at h<;>try trivial
    rename_i x y hx hy;cases h;have hs:=hi.sl g;rw[hsl] at hs;have hgp:=hs.2;by_cases hpw:p=want
    ·subst hpw;rw[if_pos (hyield.2 hgp)];refine .inl (hon _ x (hval p hgp kn hk) hx ?_);cases p with
     |true=>exact hq.1 rfl
     |false=>exact hq.2 rfl
    ·rw[if_neg (λhw=>hpw (by have:=hyield.1 hw; rw[hgp] at this; cases this; rfl))];have hpn:p = !want:=by cases p<;>cases want<;>first|rfl|exact absurd rfl hpw
     refine hoff _ y (hval (!want) (by rw[hgp,hpn]) kn hk) hy ?_;cases want with
     |true=>
      subst hpn;exact hq.2 rfl
     |false=>
      subst hpn;exact hq.1 rfl
def TW {C:Cx} (hC:CxOK P C) {id:Nat} {ops:Array Oper} {draw:Bool} {s:St} {t:Tr} (h:E8 P C.Γ bs ops.toList draw s=some t) {Q:XE->St->Prop} (hq:t.sat Q) {a:Act}
  (hi:I P E s a w):(Code.region id ops draw).wp P (fb P E Q) a w:=by
 unfold E8 at h;split at h<;>try trivial
 rename_i hstat;split at h<;>try trivial
 rename_i es s' hrun;split at h<;>try trivial
 rename_i hord;cases h;obtain⟨hneed,hq⟩:=Kr es hq;have hn:=U4 _ _ _ hrun;have hst:StatOK s'.n ops:=by rw[hn]; exact EU hstat
 have hruns:cz P C.Γ bs ops es s' (List.range' 0 ops.size) s:=by
  have:=UB ops.toList 0 s es hrun (λi o hi=>by simpa using hi) (λi e hi=>by simpa using hi);simpa using this
 obtain⟨F,γ,hi⟩:=hi;have hend:∀ a' w',pQ P E C.Γ bs ops es s' [] a' w'->fb P E Q .normal a' w':=by
  rintro a' w' ⟨st,W,F',γ',hinv,_,hr,_⟩;have hr':=hr;subst hr';exact⟨.normal,_,rfl,⟨F',γ',qC hinv⟩,hq⟩
 have hstart:∀ w',InvG P E s a w' [] F γ->pQ P E C.Γ bs ops es s' (List.range' 0 ops.size) a w':=λw' hi'=>by
  refine⟨s,[],F,γ,hi',λt=>?_,hruns,hn.symm⟩;constructor
  ·intro hh; simp at hh
  ·rintro⟨k,o,hk,hnot,_⟩;exfalso;apply hnot;rw[ucu];have:=(uaf.1 hk).1;omega
 cases draw with
 |false=>
  refine ufq ?_;rw[ubj];exact TV hC.ct hst hneed _ hend _ 0 a w (hstart w hi)
 |true=>
  have hord':tf ops.toList es=true:=by simpa using hord
  refine wp_region_any hC.mo ?_;refine TT hC.ct hst hneed hord' _ hend ops.size (List.range' 0 ops.size) _ a _ (by simp) uav (by simp) (λi hi'=>?_) (λi hi'=>?_) (λk hk hnot=>?_) (hstart _ (Sh hi))
  ·simp only[ucu,uac,uar,hi',if_true,uda,true_iff];omega
  ·rw[ucu] at hi';omega
  ·exfalso;apply hnot;rw[ucu];omega
def kx (P:Program) (E:Env) (c:Code) (f:St->Option Tr):Prop:=
 ∀ s t,f s=some t->∀ Q,t.sat Q->∀ a w,I P E s a w->(Code.loop c).wp P (fb P E Q) a w
def cH (P:Program) (E:Env) (Λ:Nat->St->Option Tr):Code->Nat->Prop
 |.seq a b,k=>cH P E Λ a k/\cH P E Λ b (k+cG a)
 |.cond _ a b,k=>cH P E Λ a k/\cH P E Λ b (k+cG a)
 |.block _ c,k=>cH P E Λ c k
 |.scope c,k=>cH P E Λ c k
 |.loop c,k=>kx P E c (Λ k)
 |_,_=>True
def uu {f:St->Option Tr} {Q:XE->St->Prop}:{t t':Tr}->t.bind f=some t'->t'.sat Q->t.sat λe s=>match e with
  |.normal=>∃ u,f s=some u/\u.sat Q
  |e=>Q e s
 |.leaf e s,t',h,hq=>by
  cases e with
  |normal=>exact⟨t',h,hq⟩
  |exit i=>
   simp only[Tr.bind,ucj] at h;subst h;exact hq
  |ret=>
   simp only[Tr.bind,ucj] at h;subst h;exact hq
  |panic p=>
   simp only[Tr.bind,ucj] at h;subst h;exact hq
  |val v=>
   simp only[Tr.bind,ucj] at h;subst h;exact hq
  |jump l=>
   simp only[Tr.bind,ucj] at h;subst h;exact hq
 |.br b x y,t',h,hq=>by
  simp only[Tr.bind] at h;split at h<;>try trivial
  rename_i x' y' hx hy;cases h;exact⟨λhb=>uu hx (hq.1 hb),λhb=>uu hy (hq.2 hb)⟩
 |.need p x,t',h,hq=>by
  simp only[Tr.bind] at h;split at h<;>try trivial
  rename_i x' hx;cases h;exact⟨hq.1,uu hx hq.2⟩
 |.two p x y,t',h,hq=>by
  simp only[Tr.bind] at h;split at h<;>try trivial
  rename_i x' y' hx hy;cases h;exact⟨λhb=>uu hx (hq.1 hb),uu hy hq.2⟩
def xR {id:Nat} {Q:XE->St->Prop}:{t:Tr}->(t.block id).sat Q->t.sat λe s=>match e with
  |.exit i=>if i=id then Q .normal s else Q (.exit i) s
  |e=>Q e s
 |.leaf e s,hq=>by
  cases e with
  |normal=>exact hq
  |exit i=>
   simp only[Tr.block] at hq;simp only[Tr.sat];split
   ·rename_i h;rw[if_pos h] at hq;exact hq
   ·rename_i h;rw[if_neg h] at hq;exact hq
  |ret=>exact hq
  |panic p=>exact hq
  |val v=>exact hq
  |jump l=>exact hq
 |.br b x y,hq=>⟨λhb=>xR (hq.1 hb),λhb=>xR (hq.2 hb)⟩
 |.need p x,hq=>⟨hq.1,xR hq.2⟩
 |.two p x y,hq=>⟨λhb=>xR (hq.1 hb),xR hq.2⟩
def xU {Q:XE->St->Prop}:{t:Tr}->t.scope.sat Q->t.sat λe s=>match e with
  |.jump _=>False
  |.val _=>False
  |e=>Q e s
 |.leaf e s,hq=>by
  cases e with
  |normal=>exact hq
  |exit i=>exact hq
  |ret=>exact hq
  |panic p=>exact hq
  |val v=>exact hq.1
  |jump l=>exact hq.1
 |.br b x y,hq=>⟨λhb=>xU (hq.1 hb),λhb=>xU (hq.2 hb)⟩
 |.need p x,hq=>⟨hq.1,xU hq.2⟩
 |.two p x y,hq=>⟨λhb=>xU (hq.1 hb),xU hq.2⟩
def qg1 {s:St} {a:Act} {c:Operand} {p:Bool} (hi:InvG P E s a w [] F γ) (h:gN s.sl c = .c (.bool p)):a.eval c = .bool p:=by
 have:=CW hi.sl c;rw[h] at this;exact this.2
def qnb {st:St} {a:Act} {w:World} {F:Nat->Prop} {γ:Nat->Value} {m:aY} (hi:InvG P E ⟨st.n,st.sl,m,st.gs⟩ a w [] F γ) (id:Nat):∃ F',InvG P E ⟨st.n,st.sl,Dz m id,st.gs⟩ a w [] F' γ:=by
 unfold Dz;split
 ·rename_i x u h;have h0:=h;have hne:∃ v,bh P w F (aA m γ) (.own id) v:=by
   unfold nY at h;simp only[bh];unfold aA;split at h
   ·split at h
    ·rename_i heq _ _ _ _ hm;cases heq;simp[hm]
    ·rename_i heq _ _ _ hm;cases heq;simp[hm]
    ·cases h
   ·rename_i h1;exact absurd rfl (h1 _)
  obtain⟨v,hv⟩:=hne;obtain⟨F',s1,m1,_,_⟩:=EG hi.mem (eo hi) (g6 λ_ _ h=>h) h0 hv;refine⟨F',hi.n,hi.df,?_,m1,λt=>(hi.sl t).mono s1.hF s1.hw s1.hR,hi.hg,λt=>s1.repA (hi.gh t)⟩;obtain⟨γ0,h0⟩:=hi.step;exact⟨γ0,h0.trans s1⟩
 ·exact⟨F,hi⟩
def Rj {st:St} {a:Act} {w:World} {γ:Nat->Value}:(ids:List Nat) -> {m:aY} -> {F:Nat->Prop}->InvG P E ⟨st.n,st.sl,m,st.gs⟩ a w [] F γ->∃ F',InvG P E ⟨st.n,st.sl,ids.foldl Dz m,st.gs⟩ a w [] F' γ
 |[],_,F,hi=>⟨F,hi⟩
 |id::r,_,_,hi=>by
  obtain⟨F1,h1⟩:=qnb hi id;exact Rj r h1
def gF {C:Cx} (hC:CxOK P C) {Λ:Nat->St->Option Tr}:(c:Code)->(k:Nat)->cH P E Λ c k->∀ {s:St} {t:Tr},cU P C bs Λ c k s=some t ->
  ∀ {Q:XE->St->Prop},t.sat Q->∀ {a:Act} {w:World},I P E s a w->c.wp P (fb P E Q) a w
 |.skip,k,_,s,t,h,Q,hq,a,w,hi=>by
  simp only[cU,ucj] at h
  subst h
  exact wp_skip ⟨.normal,s,rfl,hi,hq⟩
 |.ret,k,_,s,t,h,Q,hq,a,w,hi=>by
  simp only[cU,ucj] at h
  subst h
  exact wp_ret ⟨.ret,s,rfl,hi,hq⟩
 |.exit id,k,_,s,t,h,Q,hq,a,w,hi=>by
  simp only[cU,ucj] at h
  subst h
  exact wp_exit ⟨.exit id,s,rfl,hi,hq⟩
 |.region id ops draw,k,_,s,t,h,Q,hq,a,w,hi=>by
  simp only[cU] at h
  split at h
  ·rename_i t' ht'
   simp at h
   subst h
   exact TW hC ht' hq hi
  ·split at h
   ·rename_i t' ht'
    simp at h
    subst h
    split at ht'<;>try (cases ht'; done)
    rename_i hc
    obtain⟨rfl,hstat⟩:=hc
    obtain⟨F,γ,hinv⟩:=hi
    refine ufq ?_
    rw[ubj]
    have:=K1 hC (EU hstat) ops.toList 0 (λi o hi=>by simpa using hi) s a w [] F γ t' hinv rfl (λx=>⟨λhh=>by simp at hh,λ⟨i,_,hi,_⟩=>by omega⟩) ht' hq
    simpa using this
   ·split at h
    ·rename_i t' ht'
     simp at h
     subst h
     split at ht'<;>try (cases ht'; done)
     rename_i hc
     obtain⟨rfl,hstat⟩:=hc
     obtain⟨F,γ,hinv⟩:=hi
     refine ufq ?_
     rw[ubj]
     have:=K2 hC (EU hstat) ops.toList 0 (λi o hi=>by simpa using hi) [] s a w [] F γ t' hinv (λx hx=>by simp at hx) rfl (λx=>⟨λhh=>by simp at hh,λ⟨i,_,hi,_⟩=>by omega⟩) ht' hq
     simpa using this
    ·split at h
     ·rename_i t' ht'
      simp at h
      subst h
      obtain⟨F,γ,hinv⟩:=hi
      obtain⟨F',h'⟩:=Rj _ hinv
      exact TW hC ht' hq ⟨F',γ,h'⟩
     ·simp at h
      subst h
      exact hq.1.elim
 |.seq x y,k,hl,s,t,h,Q,hq,a,w,hi=>by
  simp only[cU] at h
  split at h<;>try (cases h; done)
  rename_i t1 h1
  refine wp_seq (wp_mono (gF hC x k hl.1 h1 (uu h hq) hi) ?_)
  rintro e a' w' ⟨xe,s',rfl,hi',hq'⟩
  cases xe with
  |normal=>
   obtain⟨u,hu,hqu⟩:=hq'
   exact gF hC y _ hl.2 hu hqu hi'
  |exit i=>exact⟨.exit i,s',rfl,hi',hq'⟩
  |ret=>exact⟨.ret,s',rfl,hi',hq'⟩
  |panic p=>exact⟨.panic p,s',rfl,hi',hq'⟩
  |val v=>exact⟨.val v,s',rfl,hi',hq'⟩
  |jump l=>exact⟨.jump l,s',rfl,hi',hq'⟩
 |.cond c x y,k,hl,s,t,h,Q,hq,a,w,hi=>by
  simp only[cU] at h
  split at h<;>try (cases h; done)
  rename_i p hp
  split at h<;>try (cases h; done)
  rename_i x' y' hx hy
  simp at h
  subst h
  obtain⟨F,γ,hinv⟩:=id hi
  exact wp_cond_split (qg1 hinv hp) (λhb=>gF hC x _ hl.1 hx (hq.1 hb) hi) (λhb=>gF hC y _ hl.2 hy (hq.2 hb) hi)
 |.block id c,k,hl,s,t,h,Q,hq,a,w,hi=>by
  simp only[cU] at h
  split at h<;>try (cases h; done)
  rename_i t1 h1
  simp at h
  subst h
  refine wp_block (wp_mono (gF hC c k hl h1 (xR hq) hi) ?_)
  rintro e a' w' ⟨xe,s',rfl,hi',hq'⟩
  cases xe with
  |normal=>exact⟨.normal,s',rfl,hi',hq'⟩
  |exit i=>
   simp only at hq'
   show Exit.inBlock id _ (.exit i) a' w'
   unfold Exit.inBlock
   simp only
   split
   ·rename_i h
    rw[if_pos h] at hq'
    exact⟨.normal,s',rfl,hi',hq'⟩
   ·rename_i h
    rw[if_neg h] at hq'
    exact⟨.exit i,s',rfl,hi',hq'⟩
  |ret=>exact⟨.ret,s',rfl,hi',hq'⟩
  |panic p=>exact⟨.panic p,s',rfl,hi',hq'⟩
  |val v=>exact⟨.val v,s',rfl,hi',hq'⟩
  |jump l=>exact⟨.jump l,s',rfl,hi',hq'⟩
 |.loop c,k,hl,s,t,h,Q,hq,a,w,hi=>by
  simp only[cU] at h
  split at h
  ·rename_i t' ht'
   simp at h
   subst h
   exact hl s t' ht' Q hq a w hi
  ·simp at h
   subst h
   exact hq.1.elim
 |.label _,_,_,_,_,h,_,hq,_,_,hi=>by
  simp only[cU,ucj] at h
  subst h
  exact wp_label ⟨.normal,_,rfl,hi,hq⟩
 |.goto l,_,_,_,_,h,_,hq,_,_,hi=>by
  simp only[cU,ucj] at h
  subst h
  exact wp_goto ⟨.jump l,_,rfl,hi,hq⟩
 |.scope c,k,hl,s,t,h,Q,hq,a,w,hi=>by
  simp only[cU] at h
  split at h<;>try (cases h; done)
  rename_i t1 h1
  simp at h
  subst h
  refine wp_scope_straight (wp_mono (gF hC c k hl h1 (xU hq) hi) ?_)
  rintro e a' w' ⟨xe,s',rfl,hi',hq'⟩
  cases xe with
  |normal=>exact⟨.normal,s',rfl,hi',hq'⟩
  |exit i=>exact⟨.exit i,s',rfl,hi',hq'⟩
  |ret=>exact⟨.ret,s',rfl,hi',hq'⟩
  |panic p=>exact⟨.panic p,s',rfl,hi',hq'⟩
  |val v=>exact hq'.elim
  |jump l=>exact hq'.elim
 |.rangeFunc ..,_,_,_,_,h,_,hq,_,_,_=>by
  simp only[cU,ucj] at h
  subst h
  exact hq.1.elim
 |.refuse _,_,_,_,_,h,_,hq,_,_,_=>by
  simp only[cU,ucj] at h
  subst h
  exact hq.1.elim
end
end Go.Ab

namespace Go.Ab
open Go Go.RowKit
abbrev YF:Type:=Option TypeId×Ty
inductive MI where
 |o (t:Tmp) (e:TypeId) (ty:Ty)
 |x (id:Nat) (e:TypeId) (ty:Ty)
 |r (t:Tmp) (id off:Nat)
 |y (id:Nat) (e:TypeId) (fs:List YF)
 |g (t:Tmp) (f:FuncId) (ids:List Nat)
 |al (t s:Tmp)
@[reducible] def dG:List YF->Type
 |[]=>Unit
 |(some _,t)::r=>List t.den×dG r
 |(none,t)::r=>t.den×dG r
@[reducible] def bW:List MI->Type
 |[]=>Unit
 |.o _ _ ty::r=>List ty.den×bW r
 |.x _ _ ty::r=>ty.den×bW r
 |.r _ _ _::r=>bW r
 |.y _ _ fs::r=>dG fs×bW r
 |.g _ _ _::r=>bW r
 |.al _ _::r=>bW r
def cF (id:Nat):Nat:=2000000000000000000000000000000+id*1000
def de (cs:List AC) (j:Nat):Option Nat:=match cs[j]? with
 |some (.own k)=>some k
 |_=>none
def iU (id:Nat):(fs:List YF)->dG fs->Nat->List AC
 |[],_,_=>[]
 |(some _,_)::r,x,j=>.own (cF id+j)::iU id r x.2 (j+1)
 |(none,t)::r,x,j=>(enc t x.1).headD .nil::iU id r x.2 (j+1)
def kP:(fs:List YF)->dG fs->Nat->Option Ob
 |[],_,_=>none
 |(some e,t)::_,x,0=>some (.arr e t x.1)
 |(none,_)::_,_,0=>none
 |(some _,_)::r,x,j+1=>kP r x.2 j
 |(none,_)::r,x,j+1=>kP r x.2 j
def ig (m:aY):(fs:List YF)->List AC->List Nat->Option (dG fs×List Nat)
 |[],[],us=>some ((),us)
 |(some e,t)::r,c::cs,us=>match c with
  |.nil=>match ig m r cs us with
   |some (y,us')=>some (([],y),us')
   |none=>none
  |.own k=>if us.contains k then none else match m k with
   |some (.arr e' ty' l)=>if h:ty'=t then if e'=e then match ig m r cs (k::us) with
     |some (y,us')=>some ((dw h l,y),us')
     |none=>none
    else none else none
   |_=>none
  |_=>none
 |(none,t)::r,c::cs,us=>match dec t [c] with
  |some (x,[])=>match ig m r cs us with
   |some (y,us')=>some ((x,y),us')
   |none=>none
  |_=>none
 |_,_,_=>none
def rU (fs:List YF) (j:Nat):Prop:=∃ e t,fs[j]? = some (some e,t)
def rU.lt {fs:List YF} {j:Nat} (h:rU fs j):j<fs.length:=by
 obtain⟨e,t,h⟩:=h;exact(uak.1 h).1
def El (id:Nat):(fs:List YF)->(x:dG fs)->(j:Nat)->(iU id fs x j).length=fs.length
 |[],_,_=>rfl
 |(some _,_)::r,x,j=>by simp[iU,El id r x.2]
 |(none,_)::r,x,j=>by simp[iU,El id r x.2]
def HQ {k:Nat}:(t:Ty) -> {cs:List AC} -> {x:t.den} -> {r:List AC}->dec t (.own k::cs)=some (x,r)->r = .own k::cs
 |.int _,_,_,_,h=>by simp[dec,zf] at h
 |.bool,_,_,_,h=>by simp[dec,zd] at h
 |.str,_,_,_,h=>by simp[dec,zh] at h
 |.sl _,_,_,_,h=>by simp[dec,zg] at h
 |.unit,_,_,_,h=>by
  simp only[dec,ucj,uee] at h;exact h.2.symm
 |.pair a b,cs,x,r,h=>by
  simp only[dec] at h;split at h<;>try trivial
  rename_i x1 r1 h1;split at h<;>try trivial
  rename_i x2 r2 h2;obtain⟨_,rfl⟩:=h;have e1:=HQ a h1;subst e1;exact HQ b h2
 |.fm _,_,_,_,h=>by simp[dec,CM] at h
 |.ic _ _,_,_,_,h=>by simp[dec,CL] at h
 |.fc _,_,_,_,h=>by simp[dec,CK] at h
def Nb (id:Nat) (fs:List YF) (cs:List AC) (j0 j:Nat) (c:AC):Prop:=
 (c = .own (cF id+(j0+j))/\rU fs j) \/ ∃ (t:Ty) (x:t.den) (c0:AC),cs[j]? = some c0/\dec t [c0]=some (x,[])/\[c]=enc t x
def Ig {m:aY} {id:Nat}:{fs:List YF} -> {cs:List AC} -> {us us':List Nat} -> {y:dG fs}->ig m fs cs us=some (y,us')->∀ j0 j c,(iU id fs y j0)[j]? = some c->Nb id fs cs j0 j c
 |[],[],_,_,_,_,j0,j,c,hc=>by simp[iU] at hc
 |f::r,[],us,us',y,h,_,_,_,_=>by
  obtain⟨o,t⟩:=f;cases o<;>simp[ig] at h
 |[],c::cs,us,us',y,h,_,_,_,_=>by simp[ig] at h
 |(some e,t)::r,c::cs,us,us',y,h,j0,j,c',hc=>by
  have key:∀ {us1 us2:List Nat} {y':dG r},ig m r cs us1=some (y',us2)->(iU id r y' (j0+1))[j-1]? = some c'->j≠0->Nb id ((some e,t)::r) (c::cs) j0 j c':=by
   intro us1 us2 y' hy hcc hj;obtain⟨i,rfl⟩:∃ i,j=i+1:=⟨j-1,by omega⟩;rcases Ig hy (j0+1) i c' hcc with ⟨a,e1,t1,b⟩|⟨t1,x1,c0,a,b,d⟩
   ·exact .inl ⟨by rw[a]; congr 2; omega,e1,t1,by simpa using b⟩
   ·exact .inr ⟨t1,x1,c0,by simpa using a,b,d⟩
  simp only[ig] at h;split at h<;>try trivial
  ·split at h<;>try trivial
   rename_i y' us2 hy;cases h;cases j with
   |zero=>
    simp only[iU,uat,ucj] at hc;exact .inl ⟨hc.symm,e,t,rfl⟩
   |succ i=>exact key hy (by simpa[iU] using hc) (by omega)
  ·split at h<;>try trivial
   split at h<;>try trivial
   split at h<;>try trivial
   split at h<;>try trivial
   split at h<;>try trivial
   rename_i y' us2 hy;cases h;cases j with
   |zero=>
    simp only[iU,uat,ucj] at hc;exact .inl ⟨hc.symm,e,t,rfl⟩
   |succ i=>exact key hy (by simpa[iU] using hc) (by omega)
 |(none,t)::r,c::cs,us,us',y,h,j0,j,c',hc=>by
  simp only[ig] at h;split at h<;>try trivial
  rename_i x hx;split at h<;>try trivial
  rename_i y' us2 hy;cases h;cases j with
  |zero=>
   simp only[iU,uat,ucj] at hc;have hl:=vI t hx;have he:(enc t x).length=1:=by
    rw[oP];simpa using hl.symm
   refine .inr ⟨t,x,c,rfl,hx,?_⟩
   match hq:enc t x,he with
   |[a],_=>
    rw[hq] at hc;rw[<- hc];rfl
  |succ i=>
   rcases Ig hy (j0+1) i c' (by simpa[iU] using hc) with ⟨a,e1,t1,b⟩|⟨t1,x1,c0,a,b,d⟩
   ·exact .inl ⟨by rw[a]; congr 2; omega,e1,t1,by simpa using b⟩
   ·exact .inr ⟨t1,x1,c0,by simpa using a,b,d⟩
def qM (ids:List Nat):List AC:=ids.map λid=>.ptr id 0
def A0:List AC->Option (List Nat)
 |[]=>some []
 |.ptr i 0::r=>match A0 r with
  |some l=>some (i::l)
  |none=>none
 |_=>none
def TI:{cs:List AC} -> {ids:List Nat}->A0 cs=some ids->cs=qM ids
 |[],ids,h=>by
  simp only[A0,ucj] at h
  subst h
  rfl
 |c::r,ids,h=>by
  unfold A0 at h
  split at h<;>try (cases h; done)
  ·rename_i heq
   cases heq
  ·rename_i i r' heq
   cases heq
   split at h<;>try (cases h; done)
   rename_i l hl
   simp at h
   subst h
   rw[TI hl]
   rfl
def bn (t:Tmp):Nat:=1000000000000000000000000000000+t
def ju (id:Nat):List MI->Bool
 |[]=>false
 |.x i _ _::r=>i==id || ju id r
 |.y i _ _::r=>i==id || ju id r
 |_::r=>ju id r
def ka (s:Tmp):List MI->Bool
 |[]=>false
 |.o t _ _::r=>t==s || ka s r
 |_::r=>ka s r
def bK (all:List MI) (sl:Nat->AV) (m:aY):(L:List MI)->List Nat->Option (bW L)
 |[],_=>some ()
 |.o t e ty::r,us=>match sl t with
  |.c .nil=>match bK all sl m r us with
   |some y=>some ([],y)
   |none=>none
  |.c (.own id)=>if us.contains id then none else match m id with
   |some (.arr e' ty' l)=>if h:ty'=ty then if e'=e then match bK all sl m r (id::us) with
     |some y=>some (dw h l,y)
     |none=>none
    else none else none
   |_=>none
  |_=>none
 |.x id e ty::r,us=>match m id with
  |some (.box e' cs)=>if e'=e then match dec ty cs with
    |some (x,[])=>match bK all sl m r us with
     |some y=>some (x,y)
     |none=>none
    |_=>none
   else none
  |_=>none
 |.r t id off::r,us=>match sl t with
  |.c (.ptr i o)=>if i=id/\o=off/\ju id all=true then bK all sl m r us else none
  |_=>none
 |.g t f ids::r,us=>match sl t with
  |.c (.fn f' cs)=>if f'=f/\A0 cs=some ids/\ids.all (λid=>ju id all)=true then bK all sl m r us else none
  |_=>none
 |.al t s::r,us=>match sl t,sl s with
  |.c (.own i),.c (.own j)=>if i=j/\ka s all=true then bK all sl m r us else none
  |.c .nil,.c .nil=>if ka s all=true then bK all sl m r us else none
  |_,_=>none
 |.y id e fs::r,us=>match m id with
  |some (.box e' cs)=>if e'=e then match ig m fs cs us with
    |some (x,us')=>match bK all sl m r us' with
     |some y=>some (x,y)
     |none=>none
    |none=>none
   else none
  |_=>none
def bN:(L:List MI)->bW L->aY
 |[],_=>λ_=>none
 |.o t e ty::r,x=>λi=>if i=bn t then some (.arr e ty x.1) else bN r x.2 i
 |.x id e ty::r,x=>λi=>if i=id then some (.box e (enc ty x.1)) else bN r x.2 i
 |.r _ _ _::r,x=>bN r x
 |.g _ _ _::r,x=>bN r x
 |.al _ _::r,x=>bN r x
 |.y id e fs::r,x=>λi=>if i=id then some (.box e (iU id fs x.1 0)) else if cF id<=i/\i<cF id+fs.length then kP fs x.1 (i-cF id) else bN r x.2 i
def bG:List MI->Nat->AV
 |[],_=>.dead
 |.o t _ _::r,i=>if i=t then .c (.own (bn t)) else bG r i
 |.x _ _ _::r,i=>bG r i
 |.r t id off::r,i=>if i=t then .c (.ptr id off) else bG r i
 |.y _ _ _::r,i=>bG r i
 |.g t f ids::r,i=>if i=t then .c (.fn f (qM ids)) else bG r i
 |.al t s::r,i=>if i=t then .c (.own (bn s)) else bG r i
def Ia:(p:PT)->p.den->AV
 |.d t,x=>gL t x
 |.ptr t,x=>.c (.sptr (enc t x))
 |.fn ps rs,g=>.c (.fv ps rs g)
 |.pf ps rs,g=>.c (.pv ps rs g.1 g.2)
 |.pfn ps rs,g=>.c (.sptr [.fv ps rs g])
 |.pk f,_=>.c (.sptr [.fn f []])
def qY:(vs:List (Tmp×PT))->aq (vs.map (·.2))->(Nat->AV)->Nat->AV
 |[],_,f,i=>f i
 |(t,p)::r,x,f,i=>if i=t then Ia p x.1 else qY r x.2 f i
def DP (m:aY):MI->aY
 |.x id _ _=>match m id with
  |some (.box e cs)=>match ix m cs with
   |some (cs',u)=>match aK m u id with
    |some (.box _ _)=>aK m (u++[(id,.box e cs')])
    |_=>m
   |none=>m
  |_=>m
 |_=>m
def Ac:List MI->aY->aY
 |[],m=>m
 |i::r,m=>Ac r (DP m i)
structure LS where
 vs:List (Tmp×PT)
 ms:List MI
@[reducible] def LS.X (L:LS):Type:=aq (L.vs.map (·.2))×bW L.ms
def LS.ext (Γ:Gm) (L:LS) (s:St):Option (L.X×List Prop):=
 match eF s.mem (L.vs.map λv=>s.at v.1) with
 |some (xs,u)=>match lD Γ (L.vs.map (·.2)) xs with
  |some (x,n)=>match bK L.ms s.at (Ac L.ms (aK s.mem u)) L.ms [] with
   |some y=>some ((x,y),n)
   |none=>none
  |none=>none
 |none=>none
def LS.tpl (L:LS) (n:Nat) (x:L.X):St:=⟨n,λi=>if i<10000 then qY L.vs x.1 (bG L.ms) i else .dead,bN L.ms x.2,λi=>qY L.vs x.1 (bG L.ms) (i+10000)⟩
section
variable {P:Program} {B:Nat} {w w':World} {E:Env} {F F':Nat->Prop} {γ γ' γ0:Nat->Value} {Γ:Gm} {M m:aY} {R:Nat->Value->Prop}
def PP:{p:PT} -> {x:p.den} -> {v:Value}->Gu P w F p x v->aM P w F R (Ia p x) v
 |.d t,x,v,h=>jV h
 |.ptr t,x,v,h=>by
  obtain⟨ad,rfl,h2,h3⟩:=h;exact⟨rfl,ad,rfl,h2,aD.enc t x h3⟩
 |.fn ps rs,g,v,h=>by
  have h':=h;obtain⟨f,caps,rfl,_⟩:=id h';exact⟨rfl,h'⟩
 |.pf ps rs,g,v,h=>by
  have h':=h;obtain⟨f,caps,rfl,_⟩:=id h';exact⟨rfl,h'⟩
 |.pfn ps rs,g,v,h=>by
  obtain⟨ad,u,rfl,h2,h3,h4⟩:=h;have h5:u.oneCell'=true:=by
   obtain⟨f,caps,rfl,_⟩:=id h4;rfl
  exact⟨rfl,ad,rfl,h2,⟨u,h3,h5,by simp only[bh]; exact h4⟩,uT⟩
 |.pk f,_,v,h=>by
  obtain⟨ad,rfl,h2,h3⟩:=h;exact⟨rfl,ad,rfl,h2,⟨_,h3,rfl,by simp only[bh]; exact⟨#[],rfl,rfl,uT⟩⟩,uT⟩
def bI (sl:Nat->AV) (m:aY):List MI->Nat->Option Nat
 |[],_=>none
 |.o t _ _::r,i=>if i=bn t then (match sl t with
  |.c (.own id)=>some id
  |_=>none) else bI sl m r i
 |.x id _ _::r,i=>if i=id then some id else bI sl m r i
 |.r _ _ _::r,i=>bI sl m r i
 |.g _ _ _::r,i=>bI sl m r i
 |.al _ _::r,i=>bI sl m r i
 |.y id _ fs::r,i=>if i=id then some id else if cF id<=i/\i<cF id+fs.length then (match m id with
  |some (.box _ cs)=>de cs (i-cF id)
  |_=>none) else bI sl m r i
def ce (γ:Nat->Value) (sl:Nat->AV) (m:aY) (L:List MI) (i:Nat):Value:=match bI sl m L i with
 |some k=>γ k
 |none=>.slice none 0 0
def s8:{fs:List YF} -> {cs:List AC} -> {us us':List Nat} -> {y:dG fs}->ig m fs cs us=some (y,us') ->
  cs.length=fs.length/\(∀ k,k∈us->k∈us')/\(∀ j k,de cs j=some k->k ∉ us/\k∈us'/\∃ e t l,m k=some (.arr e t l)) /\
  (∀ i j k,de cs i=some k->de cs j=some k->i=j)/\∀ j o,kP fs y j=some o->(cs[j]? = some .nil/\∃ e t,o = .arr e t []) \/ ∃ k,cs[j]? = some (.own k)/\m k=some o
 |[],[],us,us',y,h=>by
  simp only[ig,ucj,uee] at h;refine⟨rfl,λk hk=>h.2 ▸ hk,λj k hj=>by simp[de] at hj,λi j k hi=>by simp[de] at hi,λj o hj=>by simp[kP] at hj⟩
 |f::r,[],us,us',y,h=>by
  obtain⟨o,t⟩:=f;cases o<;>simp[ig] at h
 |[],c::cs,us,us',y,h=>by simp[ig] at h
 |(some e,t)::r,c::cs,us,us',y,h=>by
  simp only[ig] at h;split at h<;>try trivial
  ·split at h<;>try trivial
   rename_i y' us2 hy;cases h;obtain⟨h1,h2,h3,h4,h5⟩:=s8 hy;refine⟨by simp[h1],h2,λj k hj=>?_,λi j k hi hj=>?_,λj o hj=>?_⟩
   ·cases j with
    |zero=>simp[de] at hj
    |succ j=>exact h3 j k (by simpa[de] using hj)
   ·cases i with
    |zero=>simp[de] at hi
    |succ i=>
     cases j with
     |zero=>simp[de] at hj
     |succ j=>rw[h4 i j k (by simpa[de] using hi) (by simpa[de] using hj)]
   ·cases j with
    |zero=>
     simp only[kP,ucj] at hj;exact .inl ⟨rfl,e,t,hj.symm⟩
    |succ j=>
     rcases h5 j o (by simpa[kP] using hj) with ⟨a,e',t',c⟩|⟨k,a,b⟩
     ·exact .inl ⟨by simpa using a,e',t',c⟩
     ·exact .inr ⟨k,by simpa using a,b⟩
  ·rename_i k0;split at h<;>try trivial
   rename_i hus;split at h<;>try trivial
   rename_i e' ty' l hm;split at h<;>try trivial
   rename_i hty;split at h<;>try trivial
   rename_i hee;split at h<;>try trivial
   rename_i y' us2 hy;cases h;obtain⟨h1,h2,h3,h4,h5⟩:=s8 hy;have hk0:k0 ∉ us:=by simpa using hus
   refine⟨by simp[h1],λk hk=>h2 k (ubg _ hk),λj k hj=>?_,λi j k hi hj=>?_,λj o hj=>?_⟩
   ·cases j with
    |zero=>
     simp only[de,uat,ucj] at hj;subst hj;exact⟨hk0,h2 _ (by simp),e',ty',l,hm⟩
    |succ j=>
     obtain⟨a,b,c⟩:=h3 j k (by simpa[de] using hj);exact⟨λhh=>a (ubg _ hh),b,c⟩
   ·cases i with
    |zero=>
     simp only[de,uat,ucj] at hi;subst hi;cases j with
     |zero=>rfl
     |succ j=>exact absurd (by simp) (h3 j k0 (by simpa[de] using hj)).1
    |succ i=>
     cases j with
     |zero=>
      simp only[de,uat,ucj] at hj;subst hj;exact absurd (by simp) (h3 i k0 (by simpa[de] using hi)).1
     |succ j=>rw[h4 i j k (by simpa[de] using hi) (by simpa[de] using hj)]
   ·cases j with
    |zero=>
     refine .inr ⟨k0,rfl,?_⟩;rw[hm,<- hj];subst hee;subst hty;rfl
    |succ j=>
     rcases h5 j o (by simpa[kP] using hj) with ⟨a,e',t',c⟩|⟨k,a,b⟩
     ·exact .inl ⟨by simpa using a,e',t',c⟩
     ·exact .inr ⟨k,by simpa using a,b⟩
 |(none,t)::r,c::cs,us,us',y,h=>by
  simp only[ig] at h;split at h<;>try trivial
  rename_i x hx;split at h<;>try trivial
  rename_i y' us2 hy;cases h;obtain⟨h1,h2,h3,h4,h5⟩:=s8 hy;have hno:∀ k,de (c::cs) 0=some k->False:=λk hk=>by
   simp only[de] at hk;split at hk<;>try trivial
   rename_i k' hc;cases hc;have:=HQ t hx;cases this
  refine⟨by simp[h1],h2,λj k hj=>?_,λi j k hi hj=>?_,λj o hj=>?_⟩
  ·cases j with
   |zero=>exact(hno k hj).elim
   |succ j=>exact h3 j k (by simpa[de] using hj)
  ·cases i with
   |zero=>exact(hno k hi).elim
   |succ i=>
    cases j with
    |zero=>exact(hno k hj).elim
    |succ j=>rw[h4 i j k (by simpa[de] using hi) (by simpa[de] using hj)]
  ·cases j with
   |zero=>simp[kP] at hj
   |succ j=>
    rcases h5 j o (by simpa[kP] using hj) with ⟨a,e',t',c⟩|⟨k,a,b⟩
    ·exact .inl ⟨by simpa using a,e',t',c⟩
    ·exact .inr ⟨k,by simpa using a,b⟩
def jW {all:List MI} {sl:Nat->AV}:{L:List MI} -> {us:List Nat} -> {y:bW L}->bK all sl m L us=some y->∀ i k,bI sl m L i=some k ->
  (i=k/\∃ e cs,m k=some (.box e cs))\/(k ∉ us/\∃ e t l,m k=some (.arr e t l))
 |[],_,_,_,i,k,hs=>by simp[bI] at hs
 |.o t e ty::r,us,y,h,i,k,hs=>by
  simp only[bK] at h;split at h<;>try trivial
  ·rename_i hsl;split at h<;>try trivial
   rename_i y' hy;simp only[bI,hsl] at hs;split at hs
   ·cases hs
   ·exact jW hy i k hs
  ·rename_i id hsl;split at h<;>try trivial
   rename_i hus;split at h<;>try trivial
   rename_i e' ty' l hm;split at h<;>try trivial
   split at h<;>try trivial
   split at h<;>try trivial
   rename_i y' hy;simp only[bI,hsl] at hs;split at hs
   ·cases hs;exact .inr ⟨by simpa using hus,e',ty',l,hm⟩
   ·rcases jW hy i k hs with h1|⟨h1,h2⟩
    ·exact .inl h1
    ·exact .inr ⟨λhh=>h1 (ubg _ hh),h2⟩
 |.x id e ty::r,us,y,h,i,k,hs=>by
  simp only[bK] at h;split at h<;>try trivial
  rename_i e' cs hm;split at h<;>try trivial
  split at h<;>try trivial
  split at h<;>try trivial
  rename_i y' hy;simp only[bI] at hs;split at hs
  ·rename_i hi;cases hs;exact .inl ⟨hi,e',cs,hm⟩
  ·exact jW hy i k hs
 |.r t id off::r,us,y,h,i,k,hs=>by
  simp only[bK] at h;split at h<;>try trivial
  split at h<;>try trivial
  exact jW h i k hs
 |.g t f id::r,us,y,h,i,k,hs=>by
  simp only[bK] at h;split at h<;>try trivial
  split at h<;>try trivial
  exact jW h i k hs
 |.al t s0::r,us,y,h,i,k,hs=>by
  simp only[bK] at h;split at h<;>try trivial
  all_goals (split at h<;>try trivial)
  all_goals exact jW h i k hs
 |.y id e fs::r,us,y,h,i,k,hs=>by
  simp only[bK] at h;split at h<;>try trivial
  rename_i e' cs hm;split at h<;>try trivial
  split at h<;>try trivial
  rename_i x us' hx;split at h<;>try trivial
  rename_i y' hy;obtain⟨g1,g2,g3,g4,g5⟩:=s8 hx;simp only[bI,hm] at hs;split at hs
  ·rename_i hi;cases hs;exact .inl ⟨hi,e',cs,hm⟩
  ·split at hs
   ·obtain⟨a,_,c⟩:=g3 _ k hs;exact .inr ⟨a,c⟩
   ·rcases jW hy i k hs with h1|⟨h1,h2⟩
    ·exact .inl h1
    ·exact .inr ⟨λhh=>h1 (g2 k hh),h2⟩
def qp {all:List MI} {sl:Nat->AV}:{L:List MI} -> {us:List Nat} -> {y:bW L}->bK all sl m L us=some y->∀ i j k,bI sl m L i=some k->bI sl m L j=some k->i=j
 |[],_,_,_,i,j,k,hs,_=>by simp[bI] at hs
 |.o t e ty::r,us,y,h,i,j,k,hi,hj=>by
  simp only[bK] at h;split at h<;>try trivial
  ·rename_i hsl;split at h<;>try trivial
   rename_i y' hy;simp only[bI,hsl] at hi hj;split at hi
   ·cases hi
   ·split at hj
    ·cases hj
    ·exact qp hy i j k hi hj
  ·rename_i id hsl;split at h<;>try trivial
   split at h<;>try trivial
   rename_i e' ty' l hm;split at h<;>try trivial
   split at h<;>try trivial
   split at h<;>try trivial
   rename_i y' hy;have hno:∀ q,bI sl m r q=some id->False:=λq hq=>by
    rcases jW hy q id hq with ⟨_,e2,cs,h2⟩|⟨h1,_⟩
    ·rw[hm] at h2; cases h2
    ·exact h1 (by simp)
   simp only[bI,hsl] at hi hj;split at hi
   ·rename_i hie;split at hj
    ·rename_i hje;rw[hie,hje]
    ·cases hi;exact(hno j hj).elim
   ·split at hj
    ·cases hj;exact(hno i hi).elim
    ·exact qp hy i j k hi hj
 |.x id e ty::r,us,y,h,i,j,k,hi,hj=>by
  simp only[bK] at h;split at h<;>try trivial
  rename_i e' cs hm;split at h<;>try trivial
  split at h<;>try trivial
  split at h<;>try trivial
  rename_i y' hy;have hno:∀ q,bI sl m r q=some id->q=id:=λq hq=>by
   rcases jW hy q id hq with ⟨h1,_⟩|⟨_,e2,t2,l2,h2⟩
   ·exact h1
   ·rw[hm] at h2; cases h2
  simp only[bI] at hi hj;split at hi
  ·rename_i hie;cases hi;split at hj
   ·rename_i hje;rw[hie,hje]
   ·rw[hie,hno j hj]
  ·split at hj
   ·rename_i hje;cases hj;rw[hje,hno i hi]
   ·exact qp hy i j k hi hj
 |.r t id off::r,us,y,h,i,j,k,hi,hj=>by
  simp only[bK] at h;split at h<;>try trivial
  split at h<;>try trivial
  exact qp h i j k hi hj
 |.g t f id::r,us,y,h,i,j,k,hi,hj=>by
  simp only[bK] at h;split at h<;>try trivial
  split at h<;>try trivial
  exact qp h i j k hi hj
 |.al t s0::r,us,y,h,i,j,k,hi,hj=>by
  simp only[bK] at h;split at h<;>try trivial
  all_goals (split at h<;>try trivial)
  all_goals exact qp h i j k hi hj
 |.y id e fs::r,us,y,h,i,j,k,hi,hj=>by
  simp only[bK] at h;split at h<;>try trivial
  rename_i e' cs hm;split at h<;>try trivial
  split at h<;>try trivial
  rename_i x us' hx;split at h<;>try trivial
  rename_i y' hy;obtain⟨g1,g2,g3,g4,g5⟩:=s8 hx;have hno1:∀ q,bI sl m r q=some id->q=id:=λq hq=>by
   rcases jW hy q id hq with ⟨h1,_⟩|⟨_,e2,t2,l2,h2⟩
   ·exact h1
   ·rw[hm] at h2; cases h2
  have hno2:∀ p q k,de cs p=some k->bI sl m r q=some k->False:=λp q k hp hq=>by
   obtain⟨_,b,e2,t2,l2,c⟩:=g3 p k hp;rcases jW hy q k hq with ⟨_,e3,cs3,h2⟩|⟨h1,_⟩
   ·rw[c] at h2; cases h2
   ·exact h1 b
  have hno3:∀ p,de cs p=some id->False:=λp hp=>by
   obtain⟨_,b,e2,t2,l2,c⟩:=g3 p id hp;rw[hm] at c; cases c
  simp only[bI,hm] at hi hj;split at hi
  ·rename_i hie;cases hi;split at hj
   ·rename_i hje;rw[hie,hje]
   ·split at hj
    ·exact(hno3 _ hj).elim
    ·rw[hie,hno1 j hj]
  ·split at hi
   ·rename_i hik;split at hj
    ·cases hj;exact(hno3 _ hi).elim
    ·split at hj
     ·rename_i hjk;have:=g4 _ _ k hi hj;omega
     ·exact(hno2 _ _ k hi hj).elim
   ·split at hj
    ·rename_i hje;cases hj;rw[hje,hno1 i hi]
    ·split at hj
     ·exact(hno2 _ _ k hj hi).elim
     ·exact qp hy i j k hi hj
def FX (w:World) (v:Value) (j:Nat) (u:Value):Prop:=∃ b arr ty,v = .pointer (some ⟨b,0,none⟩)/\w.heap[b]? = some (.cells arr ty (0,0))/\arr[j]? = some u
def qs {all:List MI} {sl:Nat->AV} (hm:MemOK P B w F γ m):{L:List MI} -> {us:List Nat} -> {y:bW L}->bK all sl m L us=some y->∀ i o,bN L y i=some o ->
  ∀ R':Nat->Value->Prop,(∀ id e fs,MI.y id e fs∈L->∀ j u,rU fs j->FX w (γ id) j u->R' (cF id+j) u)->lq P B w F R' (ce γ sl m L i) o/\((∃ k o0,bI sl m L i=some k/\m k=some o0/\cQ o0 (γ k)=cQ o (ce γ sl m L i))\/cQ o (ce γ sl m L i)=none)
 |[],_,_,_,i,o,ho=>by simp[bN] at ho
 |.o t e ty::r,us,y,h,i,o,ho=>by
  intro R' HR;simp only[bK] at h;split at h<;>try trivial
  ·rename_i hsl;split at h<;>try trivial
   rename_i y' hy;cases h;by_cases hi:i=bn t
   ·simp only[bN,if_pos hi,ucj] at ho;subst ho;simp only[ce,bI,if_pos hi,hsl];exact⟨⟨[],by simpa using ucq w B e ty.size,λg hg=>by simp[Value.ownBlock] at hg,λi x hx=>by simp at hx,λu hu=>by simp at hu⟩,.inr (by simp[cQ,Value.ownBlock])⟩
   ·simp only[bN,if_neg hi] at ho;have:=qs hm hy i o ho R' (λid e fs hmem=>HR id e fs (ubg _ hmem));simp only[ce,bI,if_neg hi] at this |-;exact this
  ·rename_i id hsl;split at h<;>try trivial
   split at h<;>try trivial
   rename_i e' ty' l hmm;split at h<;>try trivial
   rename_i hty;split at h<;>try trivial
   rename_i hee;split at h<;>try trivial
   rename_i y' hy;cases h;by_cases hi:i=bn t
   ·simp only[bN,if_pos hi,ucj] at ho;subst ho;simp only[ce,bI,if_pos hi,hsl];subst hty;subst hee;have hob:=hm.ob id _ hmm;exact⟨hob,.inl ⟨id,_,rfl,hmm,rfl⟩⟩
   ·simp only[bN,if_neg hi] at ho;have:=qs hm hy i o ho R' (λid e fs hmem=>HR id e fs (ubg _ hmem));simp only[ce,bI,if_neg hi] at this |-;exact this
 |.x id e ty::r,us,y,h,i,o,ho=>by
  intro R' HR;simp only[bK] at h;split at h<;>try trivial
  rename_i e' cs hmm;split at h<;>try trivial
  rename_i hee;split at h<;>try trivial
  rename_i x hx;split at h<;>try trivial
  rename_i y' hy;cases h;by_cases hi:i=id
  ·simp only[bN,if_pos hi,ucj] at ho;subst ho;simp only[ce,bI,if_pos hi];subst hee;obtain⟨b,arr,h1,h2,h3,h4,h5,h6⟩:=hm.ob id _ hmm;have hlen:=vI ty hx;refine⟨⟨b,arr,h1,h2,h3,h4,?_,aD.enc ty x (aD.dec ty hx h6).1⟩,.inl ⟨id,_,rfl,hmm,?_⟩⟩
   ·rw[oP,h5,hlen];simp
   ·rw[h1];rfl
  ·simp only[bN,if_neg hi] at ho;have:=qs hm hy i o ho R' (λid e fs hmem=>HR id e fs (ubg _ hmem));simp only[ce,bI,if_neg hi] at this |-;exact this
 |.r t id off::r,us,y,h,i,o,ho=>by
  intro R' HR;simp only[bK] at h;split at h<;>try trivial
  split at h<;>try trivial
  exact qs hm h i o ho R' (λid e fs hmem=>HR id e fs (ubg _ hmem))
 |.g t f id::r,us,y,h,i,o,ho=>by
  intro R' HR;simp only[bK] at h;split at h<;>try trivial
  split at h<;>try trivial
  exact qs hm h i o ho R' (λid e fs hmem=>HR id e fs (ubg _ hmem))
 |.al t s0::r,us,y,h,i,o,ho=>by
  intro R' HR;simp only[bK] at h;split at h<;>try trivial
  all_goals (split at h<;>try trivial)
  all_goals exact qs hm h i o ho R' (λid e fs hmem=>HR id e fs (ubg _ hmem))
 |.y id e fs::r,us,y,h,i,o,ho=>by
  intro R' HR;simp only[bK] at h;split at h<;>try trivial
  rename_i e' cs hmm;split at h<;>try trivial
  rename_i hee;split at h<;>try trivial
  rename_i x us' hx;split at h<;>try trivial
  rename_i y' hy;cases h;subst hee;obtain⟨g1,g2,g3,g4,g5⟩:=s8 hx;by_cases hi:i=id
  ·simp only[bN,if_pos hi,ucj] at ho;subst ho;simp only[ce,bI,if_pos hi];obtain⟨b,arr,h1,h2,h3,h4,h5,h6⟩:=hm.ob id _ hmm;refine⟨⟨b,arr,h1,h2,h3,h4,?_,?_⟩,.inl ⟨id,_,rfl,hmm,?_⟩⟩
   ·rw[h5,g1,El]
   ·refine pK _ λj c hc=>?_;have hj:j<fs.length:=by
     have:=(uak.1 hc).1;rw[El] at this;exact this
    have hjc:j<cs.length:=by omega
    rcases Ig hx 0 j c hc with ⟨rfl,hown⟩|⟨t0,x0,c0,q1,q2,q3⟩
    ·obtain⟨u,p1,p2,_⟩:=aR.at_ h6 (uap hjc);refine⟨u,p1,p2,?_⟩;rw[uew];exact HR id _ fs uca j u hown ⟨b,arr,_,h1,h2,p1⟩
    ·obtain⟨u,p1,p2⟩:=aR.at_ h6 q1;have hr1:aR P w F (aA m γ) [c0] (λi v=>i=0/\v=u):=⟨⟨u,⟨rfl,rfl⟩,p2⟩,uT⟩;have hr2:=aD.enc (P:=P) (R:=R') t0 x0 (aD.dec t0 q2 hr1).1;rw[<- q3] at hr2;obtain⟨⟨u',⟨_,rfl⟩,p3⟩,_⟩:=hr2;exact⟨u',p1,p3⟩
   ·rw[h1];rfl
  ·by_cases hk:cF id<=i/\i<cF id+fs.length
   ·simp only[bN,if_neg hi,if_pos hk] at ho;simp only[ce,bI,if_neg hi,if_pos hk,hmm];rcases g5 _ o ho with ⟨a,e0,t0,rfl⟩|⟨k,a,b⟩
    ·have hown:de cs (i-cF id)=none:=by simp[de,a]
     rw[hown];exact⟨⟨[],by simpa using ucq w B e0 t0.size,λg hg=>by simp[Value.ownBlock] at hg,λi x hx=>by simp at hx,λu hu=>by simp at hu⟩,.inr (by simp[cQ,Value.ownBlock])⟩
    ·have hown:de cs (i-cF id)=some k:=by simp[de,a]
     rw[hown];have hkm:=b;obtain⟨_,_,e2,t2,l2,hc⟩:=g3 _ k hown;rw[hc] at hkm;cases hkm;exact⟨hm.ob k _ hc,.inl ⟨k,_,rfl,hc,rfl⟩⟩
   ·simp only[bN,if_neg hi,if_neg hk] at ho;have:=qs hm hy i o ho R' (λid e fs hmem=>HR id e fs (ubg _ hmem));simp only[ce,bI,if_neg hi,if_neg hk] at this |-;exact this
def oQ {all:List MI} {sl:Nat->AV} {id:Nat}:{L:List MI} -> {us:List Nat} -> {y:bW L}->bK all sl m L us=some y->ju id L=true->(∀ t e ty,MI.o t e ty∈L->bn t≠id)->id<1000000000000000000000000000000->∃ o,bN L y id=some o/\bI sl m L id=some id
 |[],_,_,_,h,_,_=>by simp[ju] at h
 |.o t e ty::r,us,y,h,hx,hno,hlt=>by
  have hne:¬ id=bn t:=λhh=>hno t e ty (by simp) hh.symm;simp only[bK] at h;split at h<;>try trivial
  ·split at h<;>try trivial
   rename_i y' hy;cases h;simp only[bN,bI,if_neg hne];exact oQ hy hx (λt' e' ty' hm=>hno t' e' ty' (ubg _ hm)) hlt
  ·split at h<;>try trivial
   split at h<;>try trivial
   split at h<;>try trivial
   split at h<;>try trivial
   split at h<;>try trivial
   rename_i y' hy;cases h;simp only[bN,bI,if_neg hne];exact oQ hy hx (λt' e' ty' hm=>hno t' e' ty' (ubg _ hm)) hlt
 |.x i e ty::r,us,y,h,hx,hno,hlt=>by
  simp only[bK] at h;split at h<;>try trivial
  split at h<;>try trivial
  split at h<;>try trivial
  split at h<;>try trivial
  rename_i y' hy;cases h;by_cases hi:id=i
  ·simp only[bN,bI,if_pos hi];exact⟨_,rfl,by rw[hi]⟩
  ·simp only[bN,bI,if_neg hi];simp only[ju,udr,ufh] at hx;exact oQ hy (hx.resolve_left (λh=>hi h.symm)) (λt' e' ty' hm=>hno t' e' ty' (ubg _ hm)) hlt
 |.r t i off::r,us,y,h,hx,hno,hlt=>by
  simp only[bK] at h;split at h<;>try trivial
  split at h<;>try trivial
  exact oQ (L:=r) h hx (λt' e' ty' hm=>hno t' e' ty' (ubg _ hm)) hlt
 |.g t f i::r,us,y,h,hx,hno,hlt=>by
  simp only[bK] at h;split at h<;>try trivial
  split at h<;>try trivial
  exact oQ (L:=r) h hx (λt' e' ty' hm=>hno t' e' ty' (ubg _ hm)) hlt
 |.al t s0::r,us,y,h,hx,hno,hlt=>by
  simp only[bK] at h;split at h<;>try trivial
  all_goals (split at h<;>try trivial)
  all_goals exact oQ (L:=r) h hx (λt' e' ty' hm=>hno t' e' ty' (ubg _ hm)) hlt
 |.y i e fs::r,us,y,h,hx,hno,hlt=>by
  simp only[bK] at h;split at h<;>try trivial
  split at h<;>try trivial
  split at h<;>try trivial
  split at h<;>try trivial
  rename_i y' hy;cases h;by_cases hi:id=i
  ·simp only[bN,bI,if_pos hi];exact⟨_,rfl,by rw[hi]⟩
  ·have hk:¬ (cF i<=id/\id<cF i+fs.length):=λhh=>by
    have:=hh.1;unfold cF at this;omega
   simp only[bN,bI,if_neg hi,if_neg hk];simp only[ju,udr,ufh] at hx;exact oQ hy (hx.resolve_left (λh=>hi h.symm)) (λt' e' ty' hm=>hno t' e' ty' (ubg _ hm)) hlt
end
end Go.Ab

namespace Go.Ab
open Go Go.RowKit
def Br:List MI->List Nat
 |[]=>[]
 |.y id _ _::r=>id::Br r
 |_::r=>Br r
def bu:List MI->Bool
 |[]=>true
 |.o t _ _::r=>decide (t<1000000000000000000000000000000)&&bu r
 |.x id _ _::r=>decide (id<1000000000000000000000000000000)&&bu r
 |.r _ id _::r=>decide (id<1000000000000000000000000000000)&&bu r
 |.g _ _ ids::r=>ids.all (λid=>decide (id<1000000000000000000000000000000))&&bu r
 |.al _ _::r=>bu r
 |.y id _ fs::r=>decide (id<1000000000000000000000000000000)&&(decide (fs.length<=1000)&&(!(Br r).contains id&&bu r))
def LS.low (L:LS):Bool:=bu L.ms
section
variable {P:Program} {B:Nat} {w w':World} {E:Env} {F F':Nat->Prop} {γ γ' γ0:Nat->Value} {Γ:Gm} {M m:aY} {R:Nat->Value->Prop}
def qH {id:Nat} {t:Tmp} {off:Nat}:{ms:List MI}->bu ms=true -> .r t id off∈ms->id<1000000000000000000000000000000
 |[],_,h=>by simp at h
 |.o _ _ _::r,h,hm=>by
  simp only[bu,uc9] at h;rcases ueg.1 hm with h1|h1
  ·cases h1
  ·exact qH h.2 h1
 |.x _ _ _::r,h,hm=>by
  simp only[bu,uc9] at h;rcases ueg.1 hm with h1|h1
  ·cases h1
  ·exact qH h.2 h1
 |.r _ _ _::r,h,hm=>by
  simp only[bu,uc9,ucs] at h;rcases ueg.1 hm with h1|h1
  ·cases h1; exact h.1
  ·exact qH h.2 h1
 |.g _ _ _::r,h,hm=>by
  simp only[bu,uc9] at h;rcases ueg.1 hm with h1|h1
  ·cases h1
  ·exact qH h.2 h1
 |.al _ _::r,h,hm=>by
  simp only[bu] at h;rcases ueg.1 hm with h1|h1
  ·cases h1
  ·exact qH h h1
 |.y _ _ _::r,h,hm=>by
  simp only[bu,uc9] at h;rcases ueg.1 hm with h1|h1
  ·cases h1
  ·exact qH h.2.2.2 h1
def sQ {ids:List Nat} {t:Tmp} {f:FuncId}:{ms:List MI}->bu ms=true -> .g t f ids∈ms->∀ id∈ids,id<1000000000000000000000000000000
 |[],_,h=>by simp at h
 |.o _ _ _::r,h,hm=>by
  simp only[bu,uc9] at h;rcases ueg.1 hm with h1|h1
  ·cases h1
  ·exact sQ h.2 h1
 |.x _ _ _::r,h,hm=>by
  simp only[bu,uc9] at h;rcases ueg.1 hm with h1|h1
  ·cases h1
  ·exact sQ h.2 h1
 |.r _ _ _::r,h,hm=>by
  simp only[bu,uc9] at h;rcases ueg.1 hm with h1|h1
  ·cases h1
  ·exact sQ h.2 h1
 |.g _ _ _::r,h,hm=>by
  simp only[bu,uc9] at h;rcases ueg.1 hm with h1|h1
  ·cases h1; exact λid hid=>ucv (uc6.1 h.1 id hid)
  ·exact sQ h.2 h1
 |.al _ _::r,h,hm=>by
  simp only[bu] at h;rcases ueg.1 hm with h1|h1
  ·cases h1
  ·exact sQ h h1
 |.y _ _ _::r,h,hm=>by
  simp only[bu,uc9] at h;rcases ueg.1 hm with h1|h1
  ·cases h1
  ·exact sQ h.2.2.2 h1
def qtz {ms:List MI} (h:bu ms=true) {id:Nat} {t:Tmp} {off:Nat} (hm : .r t id off∈ms):∀ t':Tmp,bn t'≠id:=by
 have:=qH h hm;unfold bn;omega
def D1:{fs:List YF}->(y:dG fs) -> {j:Nat}->rU fs j->∃ e t l,kP fs y j=some (.arr e t l)
 |[],_,_,⟨_,_,h⟩=>by simp at h
 |(some e,t)::_,y,0,_=>⟨e,t,y.1,rfl⟩
 |(some _,_)::r,y,j+1,⟨e,t,h⟩=>D1 y.2 ⟨e,t,by simpa using h⟩
 |(none,_)::r,y,j+1,⟨e,t,h⟩=>D1 y.2 ⟨e,t,by simpa using h⟩
def uq {id:Nat} {e:TypeId} {fs:List YF}:{L:List MI} -> .y id e fs∈L->id∈Br L
 |[],h=>by simp at h
 |.o _ _ _::r,h=>by
  rcases ueg.1 h with h1|h1
  ·cases h1
  ·exact uq (L:=r) h1
 |.x _ _ _::r,h=>by
  rcases ueg.1 h with h1|h1
  ·cases h1
  ·exact uq (L:=r) h1
 |.r _ _ _::r,h=>by
  rcases ueg.1 h with h1|h1
  ·cases h1
  ·exact uq (L:=r) h1
 |.g _ _ _::r,h=>by
  rcases ueg.1 h with h1|h1
  ·cases h1
  ·exact uq (L:=r) h1
 |.al _ _::r,h=>by
  rcases ueg.1 h with h1|h1
  ·cases h1
  ·exact uq (L:=r) h1
 |.y _ _ _::r,h=>by
  rcases ueg.1 h with h1|h1
  ·cases h1;simp[Br]
  ·exact ubg _ (uq h1)
def qq {all:List MI} {sl:Nat->AV} (hm:MemOK P B w F γ m) {id:Nat} {e:TypeId} {fs:List YF} {j:Nat} {u:Value} (hj:rU fs j) (hc:FX w (γ id) j u) :
  {L:List MI} -> {us:List Nat} -> {y:bW L}->bK all sl m L us=some y->bu L=true -> .y id e fs∈L->id<1000000000000000000000000000000->fs.length<=1000 ->
  (∃ e t l,bN L y (cF id+j)=some (.arr e t l))/\ce γ sl m L (cF id+j)=u
 |[],_,_,_,_,h,_,_=>by simp at h
 |.o t e' ty::r,us,y,h,hlow,hmem,hid,hfs=>by
  simp only[bu,uc9,ucs] at hlow;have key:∀ t':Nat,t'<1000000000000000000000000000000->¬ cF id+j=1000000000000000000000000000000+t':=λt' h=>by unfold cF; omega
  have hne:¬ cF id+j=bn t:=key t hlow.1;have hmem':MI.y id e fs∈r:=by
   rcases ueg.1 hmem with h1|h1
   ·cases h1
   ·exact h1
  simp only[bK] at h;split at h<;>try trivial
  ·split at h<;>try trivial
   rename_i y' hy;cases h;have:=qq hm hj hc hy hlow.2 hmem' hid hfs;simpa only[bN,ce,bI,if_neg hne] using this
  ·split at h<;>try trivial
   split at h<;>try trivial
   split at h<;>try trivial
   split at h<;>try trivial
   split at h<;>try trivial
   rename_i y' hy;cases h;have:=qq hm hj hc hy hlow.2 hmem' hid hfs;simpa only[bN,ce,bI,if_neg hne] using this
 |.x id' e' ty::r,us,y,h,hlow,hmem,hid,hfs=>by
  simp only[bu,uc9,ucs] at hlow;have hne:¬ cF id+j=id':=by have:=hlow.1; unfold cF; omega
  have hmem':MI.y id e fs∈r:=by
   rcases ueg.1 hmem with h1|h1
   ·cases h1
   ·exact h1
  simp only[bK] at h;split at h<;>try trivial
  split at h<;>try trivial
  split at h<;>try trivial
  split at h<;>try trivial
  rename_i y' hy;cases h;have:=qq hm hj hc hy hlow.2 hmem' hid hfs;simpa only[bN,ce,bI,if_neg hne] using this
 |.r t id' off::r,us,y,h,hlow,hmem,hid,hfs=>by
  simp only[bu,uc9] at hlow;have hmem':MI.y id e fs∈r:=by
   rcases ueg.1 hmem with h1|h1
   ·cases h1
   ·exact h1
  simp only[bK] at h;split at h<;>try trivial
  split at h<;>try trivial
  exact qq (L:=r) hm hj hc h hlow.2 hmem' hid hfs
 |.g t f' id'::r,us,y,h,hlow,hmem,hid,hfs=>by
  simp only[bu,uc9] at hlow;have hmem':MI.y id e fs∈r:=by
   rcases ueg.1 hmem with h1|h1
   ·cases h1
   ·exact h1
  simp only[bK] at h;split at h<;>try trivial
  split at h<;>try trivial
  exact qq (L:=r) hm hj hc h hlow.2 hmem' hid hfs
 |.al t s0::r,us,y,h,hlow,hmem,hid,hfs=>by
  have hmem':MI.y id e fs∈r:=by
   rcases ueg.1 hmem with h1|h1
   ·cases h1
   ·exact h1
  simp only[bK] at h;split at h<;>try trivial
  all_goals (split at h<;>try trivial)
  all_goals exact qq (L:=r) hm hj hc h hlow hmem' hid hfs
 |.y id' e' fs'::r,us,y,h,hlow,hmem,hid,hfs=>by
  simp only[bu,uc9,ucs,uct,List.contains_eq_mem,uau] at hlow;obtain⟨l1,l2,l3,l4⟩:=hlow;simp only[bK] at h;split at h<;>try trivial
  rename_i e2 cs hmm;split at h<;>try trivial
  split at h<;>try trivial
  rename_i x us' hx;split at h<;>try trivial
  rename_i y' hy;cases h;have hne:¬ cF id+j=id':=by unfold cF; omega
  by_cases hii:id=id'
  ·subst hii;have hhead:fs=fs':=by
    rcases ueg.1 hmem with h1|h1
    ·cases h1; rfl
    ·exact absurd (uq h1) l3
   subst hhead;have hjl:=hj.lt;have hk:cF id<=cF id+j/\cF id+j<cF id+fs.length:=⟨by omega,by omega⟩;simp only[bN,ce,bI,if_neg hne,if_pos hk,hmm,uaw];refine⟨D1 x hj,?_⟩;obtain⟨g1,g2,g3,g4,g5⟩:=s8 hx;obtain⟨ee,tt,ll,hget⟩:=D1 x hj;obtain⟨b,arr,ty,q1,q2,q3⟩:=hc;obtain⟨b',arr',p1,p2,_,_,p5,p6⟩:=hm.ob id _ hmm;rw[q1] at p1;cases p1;rw[q2] at p2;cases p2;rcases g5 j _ hget with ⟨a,_⟩|⟨k,a,hk2⟩
   ·have hown:de cs j=none:=by simp[de,a]
    rw[hown];obtain⟨u',r1,_,r3⟩:=aR.at_ p6 a;rw[q3] at r1;cases r1;exact r3.symm
   ·have hown:de cs j=some k:=by simp[de,a]
    rw[hown];obtain⟨u',r1,_,r3⟩:=aR.at_ p6 a;rw[q3] at r1;cases r1;have r4:aA m γ k u:=r3;simp only[aA,hk2] at r4;exact r4.symm
  ·have hmem':MI.y id e fs∈r:=by
    rcases ueg.1 hmem with h1|h1
    ·cases h1; exact absurd rfl hii
    ·exact h1
   have hjl:=hj.lt;have hk:¬ (cF id'<=cF id+j/\cF id+j<cF id'+fs'.length):=by unfold cF; omega
   have:=qq hm hj hc hy l4 hmem' hid hfs;simpa only[bN,ce,bI,if_neg hne,if_neg hk] using this
def sR {id:Nat} {e:TypeId} {fs:List YF}:{ms:List MI}->bu ms=true -> .y id e fs∈ms->id<1000000000000000000000000000000/\fs.length<=1000
 |[],_,h=>by simp at h
 |.o _ _ _::r,h,hm=>by
  simp only[bu,uc9] at h;rcases ueg.1 hm with h1|h1
  ·cases h1
  ·exact sR h.2 h1
 |.x _ _ _::r,h,hm=>by
  simp only[bu,uc9] at h;rcases ueg.1 hm with h1|h1
  ·cases h1
  ·exact sR h.2 h1
 |.r _ _ _::r,h,hm=>by
  simp only[bu,uc9] at h;rcases ueg.1 hm with h1|h1
  ·cases h1
  ·exact sR h.2 h1
 |.g _ _ _::r,h,hm=>by
  simp only[bu,uc9] at h;rcases ueg.1 hm with h1|h1
  ·cases h1
  ·exact sR h.2 h1
 |.al _ _::r,h,hm=>by
  simp only[bu] at h;rcases ueg.1 hm with h1|h1
  ·cases h1
  ·exact sR h h1
 |.y _ _ _::r,h,hm=>by
  simp only[bu,uc9,ucs] at h;rcases ueg.1 hm with h1|h1
  ·cases h1; exact⟨h.1,h.2.1⟩
  ·exact sR h.2.2.2 h1
def qX {all:List MI} {sl:Nat->AV} {tm:Nat->Value} (hsl:∀ t,iB P w F (aA m γ) tm (sl t) (tm t)):{L:List MI} -> {us:List Nat} -> {y:bW L}->bK all sl m L us=some y->bu L=true->∀ i,
  bG L i = .dead\/(bG L i = .c (.own (bn i))/\(∃ e t l,bN L y (bn i)=some (.arr e t l))/\ce γ sl m L (bn i)=tm i/\(tm i).oneCell'=true/\i<1000000000000000000000000000000) \/
  (∃ id off,bG L i = .c (.ptr id off)/\sl i = .c (.ptr id off)/\ju id all=true/\∃ t,.r t id off∈L) \/
  (∃ f ids,bG L i = .c (.fn f (qM ids))/\sl i = .c (.fn f (qM ids))/\(∀ id∈ids,ju id all=true)/\∃ t,.g t f ids∈L) \/
  ∃ s0,bG L i = .c (.own (bn s0))/\ka s0 all=true/\((∃ k,sl i = .c (.own k)/\sl s0 = .c (.own k))\/(sl i = .c .nil/\sl s0 = .c .nil))
 |[],_,_,_,_,i=>.inl rfl
 |.o t e ty::r,us,y,h,hlow,i=>by
  have hlow':bu r=true:=by
   simp only[bu,uc9] at hlow;exact hlow.2
  have hti:t<1000000000000000000000000000000:=by
   simp only[bu,uc9,ucs] at hlow;exact hlow.1
  have hs:=hsl t;simp only[bK] at h;split at h<;>try trivial
  ·rename_i hslt;split at h<;>try trivial
   rename_i y' hy;cases h;by_cases hi:i=t
   ·subst hi;refine .inr (.inl ⟨by simp[bG],⟨e,ty,[],by simp[bN]⟩,?_,?_,hti⟩)
    ·simp only[ce,bI,hslt];rw[hslt] at hs;exact hs.2.symm
    ·rw[hslt] at hs;exact hs.1
   ·have hne:¬ bn i=bn t:=λhh=>hi (by unfold bn at hh; omega);rcases qX hsl hy hlow' i with h1|h1|⟨id,off,h1,h2,h3,t',h4⟩|⟨f2,id2,h1,h2,h3,t',h4⟩|⟨s5,h1,h5⟩
    ·exact .inl (by simpa only[bG,if_neg hi] using h1)
    ·exact .inr (.inl (by simpa only[bG,bN,ce,bI,if_neg hi,if_neg hne] using h1))
    ·exact .inr (.inr (.inl ⟨id,off,by simpa only[bG,if_neg hi] using h1,h2,h3,t',ubg _ h4⟩))
    ·exact .inr (.inr (.inr (.inl ⟨f2,id2,by simpa only[bG,if_neg hi] using h1,h2,h3,t',ubg _ h4⟩)))
    ·exact .inr (.inr (.inr (.inr ⟨s5,by simpa only[bG,if_neg hi] using h1,h5⟩)))
  ·rename_i id hslt;split at h<;>try trivial
   split at h<;>try trivial
   rename_i e' ty' l hmm;split at h<;>try trivial
   split at h<;>try trivial
   split at h<;>try trivial
   rename_i y' hy;cases h;by_cases hi:i=t
   ·subst hi;rw[hslt] at hs;refine .inr (.inl ⟨by simp[bG],⟨e,ty,_,by simp[bN]; rfl⟩,?_,hs.1,hti⟩);simp only[ce,bI,hslt];have:=hs.2;simp only[bh,aA,hmm] at this;exact this.symm
   ·have hne:¬ bn i=bn t:=λhh=>hi (by unfold bn at hh; omega);rcases qX hsl hy hlow' i with h1|h1|⟨id,off,h1,h2,h3,t',h4⟩|⟨f2,id2,h1,h2,h3,t',h4⟩|⟨s5,h1,h5⟩
    ·exact .inl (by simpa only[bG,if_neg hi] using h1)
    ·exact .inr (.inl (by simpa only[bG,bN,ce,bI,if_neg hi,if_neg hne] using h1))
    ·exact .inr (.inr (.inl ⟨id,off,by simpa only[bG,if_neg hi] using h1,h2,h3,t',ubg _ h4⟩))
    ·exact .inr (.inr (.inr (.inl ⟨f2,id2,by simpa only[bG,if_neg hi] using h1,h2,h3,t',ubg _ h4⟩)))
    ·exact .inr (.inr (.inr (.inr ⟨s5,by simpa only[bG,if_neg hi] using h1,h5⟩)))
 |.x id e ty::r,us,y,h,hlow,i=>by
  have hlow':bu r=true/\id<1000000000000000000000000000000:=by
   simp only[bu,uc9,ucs] at hlow;exact⟨hlow.2,hlow.1⟩
  simp only[bK] at h;split at h<;>try trivial
  split at h<;>try trivial
  split at h<;>try trivial
  split at h<;>try trivial
  rename_i y' hy;cases h;have hne:¬ bn i=id:=λhh=>by
   unfold bn at hh;omega
  rcases qX hsl hy hlow'.1 i with h1|h1|⟨id',off,h1,h2,h3,t',h4⟩|⟨f2,id2,h1,h2,h3,t',h4⟩|⟨s5,h1,h5⟩
  ·exact .inl (by simpa only[bG] using h1)
  ·exact .inr (.inl (by simpa only[bG,bN,ce,bI,if_neg hne] using h1))
  ·exact .inr (.inr (.inl ⟨id',off,by simpa only[bG] using h1,h2,h3,t',ubg _ h4⟩))
  ·exact .inr (.inr (.inr (.inl ⟨f2,id2,by simpa only[bG] using h1,h2,h3,t',ubg _ h4⟩)))
  ·exact .inr (.inr (.inr (.inr ⟨s5,by simpa only[bG] using h1,h5⟩)))
 |.r t id off::r,us,y,h,hlow,i=>by
  have hlow':bu r=true:=by
   simp only[bu,uc9] at hlow;exact hlow.2
  simp only[bK] at h;split at h<;>try trivial
  rename_i i' o' hslt;split at h<;>try trivial
  rename_i hc;obtain⟨rfl,rfl,hx⟩:=hc;by_cases hi:i=t
  ·subst hi;exact .inr (.inr (.inl ⟨i',o',by simp[bG],hslt,hx,i,by simp⟩))
  ·rcases qX (L:=r) hsl h hlow' i with h1|h1|⟨id',off,h1,h2,h3,t',h4⟩|⟨f2,id2,h1,h2,h3,t',h4⟩|⟨s5,h1,h5⟩
   ·exact .inl (by simpa only[bG,if_neg hi] using h1)
   ·exact .inr (.inl (by simpa only[bN,ce,bI,bG,if_neg hi] using h1))
   ·exact .inr (.inr (.inl ⟨id',off,by simpa only[bG,if_neg hi] using h1,h2,h3,t',ubg _ h4⟩))
   ·exact .inr (.inr (.inr (.inl ⟨f2,id2,by simpa only[bG,if_neg hi] using h1,h2,h3,t',ubg _ h4⟩)))
   ·exact .inr (.inr (.inr (.inr ⟨s5,by simpa only[bG,if_neg hi] using h1,h5⟩)))
 |.g t f id::r,us,y,h,hlow,i=>by
  have hlow':bu r=true:=by
   simp only[bu,uc9] at hlow;exact hlow.2
  simp only[bK] at h;split at h<;>try trivial
  rename_i f' cs hslt;split at h<;>try trivial
  rename_i hc;obtain⟨rfl,hp,hx⟩:=hc;rw[TI hp] at hslt;by_cases hi:i=t
  ·subst hi;exact .inr (.inr (.inr (.inl ⟨f',id,by simp[bG],hslt,λj hj=>uc6.1 hx j hj,i,by simp⟩)))
  ·rcases qX (L:=r) hsl h hlow' i with h1|h1|⟨id',off,h1,h2,h3,t',h4⟩|⟨f2,id2,h1,h2,h3,t',h4⟩|⟨s5,h1,h5⟩
   ·exact .inl (by simpa only[bG,if_neg hi] using h1)
   ·exact .inr (.inl (by simpa only[bN,ce,bI,bG,if_neg hi] using h1))
   ·exact .inr (.inr (.inl ⟨id',off,by simpa only[bG,if_neg hi] using h1,h2,h3,t',ubg _ h4⟩))
   ·exact .inr (.inr (.inr (.inl ⟨f2,id2,by simpa only[bG,if_neg hi] using h1,h2,h3,t',ubg _ h4⟩)))
   ·exact .inr (.inr (.inr (.inr ⟨s5,by simpa only[bG,if_neg hi] using h1,h5⟩)))
 |.al t s0::r,us,y,h,hlow,i=>by
  have hlow':bu r=true:=by
   exact hlow
  have fin:bK all sl m r us=some y->ka s0 all=true->((∃ k,sl t = .c (.own k)/\sl s0 = .c (.own k))\/(sl t = .c .nil/\sl s0 = .c .nil)) ->
    bG (.al t s0::r) i = .dead\/(bG (.al t s0::r) i = .c (.own (bn i))/\(∃ e t' l,bN (.al t s0::r) y (bn i)=some (.arr e t' l))/\ce γ sl m (.al t s0::r) (bn i)=tm i/\(tm i).oneCell'=true/\i<1000000000000000000000000000000) \/
    (∃ id off,bG (.al t s0::r) i = .c (.ptr id off)/\sl i = .c (.ptr id off)/\ju id all=true/\∃ t',.r t' id off∈(.al t s0::r:List MI)) \/
    (∃ f ids,bG (.al t s0::r) i = .c (.fn f (qM ids))/\sl i = .c (.fn f (qM ids))/\(∀ id∈ids,ju id all=true)/\∃ t',.g t' f ids∈(.al t s0::r:List MI)) \/
    ∃ s1,bG (.al t s0::r) i = .c (.own (bn s1))/\ka s1 all=true/\((∃ k,sl i = .c (.own k)/\sl s1 = .c (.own k))\/(sl i = .c .nil/\sl s1 = .c .nil)):=λh hx hs0=>by
   by_cases hi:i=t
   ·subst hi;exact Or.inr (.inr (.inr (.inr ⟨s0,by simp[bG],hx,hs0⟩)))
   ·rcases qX (L:=r) hsl h hlow' i with h1|h1|⟨id',off,h1,h2,h3,t',h4⟩|⟨f2,id2,h1,h2,h3,t',h4⟩|⟨s5,h1,h5⟩
    ·exact .inl (by simpa only[bG,if_neg hi] using h1)
    ·exact .inr (.inl (by simpa only[bN,ce,bI,bG,if_neg hi] using h1))
    ·exact .inr (.inr (.inl ⟨id',off,by simpa only[bG,if_neg hi] using h1,h2,h3,t',ubg _ h4⟩))
    ·exact .inr (.inr (.inr (.inl ⟨f2,id2,by simpa only[bG,if_neg hi] using h1,h2,h3,t',ubg _ h4⟩)))
    ·exact .inr (.inr (.inr (.inr ⟨s5,by simpa only[bG,if_neg hi] using h1,h5⟩)))
  simp only[bK] at h;split at h<;>try trivial
  ·rename_i k1 k2 hs1 hs2;split at h<;>try trivial
   rename_i hc;obtain⟨rfl,hx⟩:=hc;exact fin h hx (.inl ⟨k1,hs1,hs2⟩)
  ·rename_i hs1 hs2;split at h<;>try trivial
   rename_i hx;exact fin h hx (.inr ⟨hs1,hs2⟩)
 |.y id e fs::r,us,y,h,hlow,i=>by
  have hlow':bu r=true/\id<1000000000000000000000000000000:=by
   simp only[bu,uc9,ucs] at hlow;exact⟨hlow.2.2.2,hlow.1⟩
  simp only[bK] at h;split at h<;>try trivial
  split at h<;>try trivial
  split at h<;>try trivial
  split at h<;>try trivial
  rename_i y' hy;cases h;have hne:¬ bn i=id:=λhh=>by
   unfold bn at hh;omega
  rcases qX hsl hy hlow'.1 i with h1|h1|⟨id',off,h1,h2,h3,t',h4⟩|⟨f2,id2,h1,h2,h3,t',h4⟩|⟨s5,h1,h5⟩
  ·exact .inl (by simpa only[bG] using h1)
  ·have hk:¬ (cF id<=bn i/\bn i<cF id+fs.length):=λhh=>by
    have:=hh.1;unfold bn cF at this;omega
   exact .inr (.inl (by simpa only[bG,bN,ce,bI,if_neg hne,if_neg hk] using h1))
  ·exact .inr (.inr (.inl ⟨id',off,by simpa only[bG] using h1,h2,h3,t',ubg _ h4⟩))
  ·exact .inr (.inr (.inr (.inl ⟨f2,id2,by simpa only[bG] using h1,h2,h3,t',ubg _ h4⟩)))
  ·exact .inr (.inr (.inr (.inr ⟨s5,by simpa only[bG] using h1,h5⟩)))
def ST {a b:Nat} (h:bn a=bn b):a=b:=by
 unfold bn at h;omega
def qus {a id:Nat} (h:a<1000000000000000000000000000000):¬ cF id<=bn a:=by
 unfold bn cF;omega
def sJ {s0:Tmp}:{L:List MI}->bu L=true->ka s0 L=true->s0<1000000000000000000000000000000
 |[],_,h=>by simp[ka] at h
 |.o t _ _::r,hl,h=>by
  simp only[bu,uc9,ucs] at hl;simp only[ka,udr,ufh] at h;rcases h with rfl|h
  ·exact hl.1
  ·exact sJ hl.2 h
 |.x _ _ _::r,hl,h=>by
  simp only[bu,uc9] at hl;exact sJ hl.2 h
 |.r _ _ _::r,hl,h=>by
  simp only[bu,uc9] at hl;exact sJ hl.2 h
 |.g _ _ _::r,hl,h=>by
  simp only[bu,uc9] at hl;exact sJ hl.2 h
 |.al _ _::r,hl,h=>by
  exact sJ (L:=r) hl h
 |.y _ _ _::r,hl,h=>by
  simp only[bu,uc9] at hl;exact sJ hl.2.2.2 h
def qr {all:List MI} {sl:Nat->AV} {s0:Tmp} (hs30:s0<1000000000000000000000000000000):{L:List MI} -> {us:List Nat} -> {y:bW L}->bK all sl m L us=some y->bu L=true->ka s0 L=true ->
  (∃ e t l,bN L y (bn s0)=some (.arr e t l))/\((∃ k e t l,sl s0 = .c (.own k)/\m k=some (.arr e t l)/\ce γ sl m L (bn s0)=γ k)\/(sl s0 = .c .nil/\ce γ sl m L (bn s0) = .slice none 0 0))
 |[],_,_,_,_,h=>by simp[ka] at h
 |.o t e ty::r,us,y,h,hlow,ho=>by
  simp only[bu,uc9] at hlow;simp only[ka,udr,ufh] at ho;simp only[bK] at h;split at h<;>try trivial
  ·rename_i hslt;split at h<;>try trivial
   rename_i y' hy;cases h;by_cases hi:t=s0
   ·subst hi;refine⟨⟨e,ty,[],by simp[bN]⟩,.inr ⟨hslt,?_⟩⟩;simp only[ce,bI,if_true,hslt]
   ·have hne:=λhh=>hi (ST hh).symm;have:=qr hs30 hy hlow.2 (ho.resolve_left hi);simpa only[bN,ce,bI,if_neg hne] using this
  ·rename_i id hslt;split at h<;>try trivial
   split at h<;>try trivial
   rename_i e' ty' l hmm;split at h<;>try trivial
   split at h<;>try trivial
   split at h<;>try trivial
   rename_i y' hy;cases h;by_cases hi:t=s0
   ·subst hi;refine⟨⟨e,ty,_,by simp[bN]; rfl⟩,.inl ⟨id,e',ty',l,hslt,hmm,?_⟩⟩;simp only[ce,bI,if_true,hslt]
   ·have hne:=λhh=>hi (ST hh).symm;have:=qr hs30 hy hlow.2 (ho.resolve_left hi);simpa only[bN,ce,bI,if_neg hne] using this
 |.x id e ty::r,us,y,h,hlow,ho=>by
  simp only[bu,uc9,ucs] at hlow;simp only[bK] at h;split at h<;>try trivial
  split at h<;>try trivial
  split at h<;>try trivial
  split at h<;>try trivial
  rename_i y' hy;cases h;have hne:¬ bn s0=id:=λhh=>by
   unfold bn at hh;omega
  have:=qr hs30 hy hlow.2 ho;simpa only[bN,ce,bI,if_neg hne] using this
 |.r t id off::r,us,y,h,hlow,ho=>by
  simp only[bu,uc9] at hlow;simp only[bK] at h;split at h<;>try trivial
  split at h<;>try trivial
  exact qr (L:=r) hs30 h hlow.2 ho
 |.g t f id::r,us,y,h,hlow,ho=>by
  simp only[bu,uc9] at hlow;simp only[bK] at h;split at h<;>try trivial
  split at h<;>try trivial
  exact qr (L:=r) hs30 h hlow.2 ho
 |.al t s1::r,us,y,h,hlow,ho=>by
  simp only[bK] at h;split at h<;>try trivial
  all_goals (split at h<;>try trivial)
  all_goals exact qr (L:=r) hs30 h hlow ho
 |.y id e fs::r,us,y,h,hlow,ho=>by
  simp only[bu,uc9,ucs] at hlow;simp only[bK] at h;split at h<;>try trivial
  split at h<;>try trivial
  split at h<;>try trivial
  split at h<;>try trivial
  rename_i y' hy;cases h;have hne:¬ bn s0=id:=λhh=>by
   unfold bn at hh;omega
  have hk:¬ (cF id<=bn s0/\bn s0<cF id+fs.length):=λhh=>qus hs30 hh.1;have:=qr hs30 hy hlow.2.2.2 ho;simpa only[bN,ce,bI,if_neg hne,if_neg hk] using this
def US {f:Nat->AV} {tm:Nat->Value}:{vs:List (Tmp×PT)} -> {x:aq (vs.map (·.2))}->dX P w F (vs.map (·.2)) x (vs.map λv=>tm v.1)->(∀ i,aM P w F R (f i) (tm i))->∀ i,aM P w F R (qY vs x f i) (tm i)
 |[],_,_,hf,i=>hf i
 |(t,p)::r,x,h,hf,i=>by
  obtain⟨v,vs',h1,h2,h3⟩:=h;obtain⟨rfl,rfl⟩:=h1;simp only[qY];split
  ·rename_i hi;subst hi;exact PP h2
  ·exact US h3 hf i
def A6 {tm:Tmp->Value}:{x:AV} -> {u:Value}->aM P w F R x u->eL P w F R tm x u
 |.dead,_,h=>h
 |.c _,_,h=>h
 |.agg _,_,h=>h
 |.tup _,_,h=>h
 |.optr _ _ _ _,_,h=>h
 |.aptr _ _ _,_,h=>h
 |.maybe _ _ _,_,h=>h.elim
def TZ {sl:Nat->AV} {tm:Nat->Value} (h:∀ t,aM P w F R (sl t) (tm t)):(ts:List Nat)->bC P w F R (ts.map sl) (ts.map tm)
 |[]=>trivial
 |t::r=>⟨h t,TZ h r⟩
def sM {s:St} {a:Act} (hi:InvG P E s a w [] F γ) (t:Tmp):aM P w F (aA s.mem γ) (s.sl t) (a.tmps.getD t undef):=by
 have:=hi.sl t;cases hs:s.sl t with
 |maybe g want v=>
  have:=hi.hg t g want v hs;simp at this
 |_=>rw[hs] at this; exact this
def eT (a:Act) (E:Env) (t:Nat):Value:=if t<10000 then a.tmps.getD t undef else E.G (t-10000)
def Sg {s:St} {a:Act} (hi:InvG P E s a w [] F γ) (t:Nat):aM P w F (aA s.mem γ) (s.at t) (eT a E t):=by
 unfold St.at eT;split
 ·exact sM hi t
 ·exact hi.gh _
def qy2 {tm:Tmp->Value} {x:AV} {u:Value} (h:aM P w F R x u):iB P w F R tm x u:=by
 cases x<;>first|exact h|exact h.elim
def qt4 {m:aY} (hm:MemOK P B w F γ m) (hb:∀ b,F b->b<w.heap.size):(i:MI)->∃ F',Step B w F γ m w F' γ (DP m i)/\MemOK P B w F' γ (DP m i):=by
 intro i;unfold DP;split<;>try exact⟨F,Step.refl hb,hm⟩
 rename_i id e0 ty0;split<;>try exact⟨F,Step.refl hb,hm⟩
 rename_i e cs hid;split<;>try exact⟨F,Step.refl hb,hm⟩
 rename_i cs' u hrs;split<;>try exact⟨F,Step.refl hb,hm⟩
 rename_i e2 cs2 hid2;obtain⟨b,arr,e1,e2',e3,e4,e5,e6⟩:=hm.ob id _ hid;obtain⟨F1,s1,m1,t1,l1,r1⟩:=AI hm hb (g6 λ_ _ h=>h) hrs e6;obtain⟨b',arr',f1,f2,f3,f4,f5,f6⟩:=m1.ob id _ hid2;rw[e1] at f1;simp at f1;subst f1;have hR:∀ i v,aA (aK m u) γ i v->aA (upd (aK m u) id (.box e cs')) γ i v:=qN hid2 (by simp);have hst:Step B w F1 γ (aK m u) w F1 γ (upd (aK m u) id (.box e cs')):=
  ⟨λc h=>h,λ_ _=>rfl,hR,λ_ _=>rfl,rfl,rfl,rfl,ufa _,s1.bd,λc h=>.inl h⟩
 have hmm:MemOK P B w F1 γ (upd (aK m u) id (.box e cs')):=by
  refine m1.change hid2 (by simp) hst.hF hst.hw (λc h=>?_) (λc _ _=>⟨rfl,λh=>h⟩) ?_
  ·rw[e1] at h |-;exact h
  ·exact⟨b,arr,e1,e2',f3,e4,by rw[e5,l1],hst.repCL r1⟩
 refine⟨F1,?_,?_⟩
 ·rw[gY]; exact s1.trans hst
 ·rw[gY]; exact hmm
def SC:(L:List MI) -> {m:aY} -> {F:Nat->Prop}->MemOK P B w F γ m->(∀ b,F b->b<w.heap.size)->∃ F',Step B w F γ m w F' γ (Ac L m)/\MemOK P B w F' γ (Ac L m)
 |[],m,F,hm,hb=>⟨F,Step.refl hb,hm⟩
 |i::r,m,F,hm,hb=>by
  obtain⟨F1,s1,m1⟩:=qt4 hm hb i;obtain⟨F2,s2,m2⟩:=SC r m1 s1.bd;exact⟨F2,s1.trans s2,m2⟩
def kO (hΓ:hH P Γ) {L:LS} (hlow:L.low=true) {s:St} {a:Act} (hi:I P E s a w) {x:L.X} {n:List Prop} (h:L.ext Γ s=some (x,n)) (hn:aE n):I P E (L.tpl s.n x) a w:=by
 obtain⟨F,γ,hi⟩:=hi;have hsl:=Sg hi;unfold LS.ext at h;split at h<;>try trivial
 rename_i xs u hrs;split at h<;>try trivial
 rename_i xv n' hdec;split at h<;>try trivial
 rename_i y hext;cases h;have hreps:bC P w F (aA s.mem γ) (L.vs.map λv=>s.at v.1) (L.vs.map λv=>eT a E v.1):=by
  have:=TZ hsl (L.vs.map (·.1));simpa[Function.comp_def] using this
 obtain⟨F0,hs0,hm0,_,hxs0⟩:=ko hi.mem (eo hi) (g6 λ_ _ h=>h) hrs hreps;obtain⟨F',hs1,hm⟩:=SC L.ms hm0 hs0.bd;have hs:=hs0.trans hs1;have hxs:=Bu hs1.hF hs1.hw hs1.hR hxs0;generalize Ac L.ms (aK s.mem u)=m2 at *;have hps:=sy hΓ hdec hn hxs;have hsl':=λt=>aM.mono hs.hF hs.hw hs.hR _ (hsl t);have hcases:=qX (λt=>qy2 (hsl' t)) hext hlow;have hob:=qs hm hext;have hHR:∀ id e fs,MI.y id e fs∈L.ms->∀ j v,rU fs j->FX w (γ id) j v->aA (bN L.ms y) (ce γ s.at m2 L.ms) (cF id+j) v:=by
  intro id e fs hmem j v hj hc;obtain⟨h30,hfs⟩:=sR hlow hmem;obtain⟨⟨e',t',l,h1⟩,h2⟩:=qq hm hj hc hext hlow hmem h30 hfs;unfold aA;rw[h1];exact h2.symm
 have hall:∀ t,aM P w F' (aA (bN L.ms y) (ce γ s.at m2 L.ms)) (qY L.vs xv (bG L.ms) t) (eT a E t):=by
  refine US hps (λi=>?_);rcases hcases i with h1|⟨h1,⟨e,t',l,h2⟩,h3,h4,_⟩|⟨id,off,h1,h2,h3,t',h4⟩|⟨f,id,h1,h2,h3,t',h4⟩|⟨s0,h1,hx,h5⟩
  ·rw[h1]; trivial
  ·rw[h1];refine⟨h4,?_⟩;show aA (bN L.ms y) (ce γ s.at m2 L.ms) (bn i) (eT a E i);unfold aA;rw[h2];exact h3.symm
  ·rw[h1];have hs':=hsl' i;rw[h2] at hs';obtain⟨one,b,hR,hv⟩:=hs';refine⟨one,b,?_,hv⟩;obtain⟨o,hmo,hsrc⟩:=oQ hext h3 (λt e ty _=>qtz hlow h4 t) (qH hlow h4);have hg:ce γ s.at m2 L.ms id=γ id:=by unfold ce; rw[hsrc]
   have hv':(Value.pointer (some ⟨b,0,none⟩))=γ id:=by
    rcases jW hext id id hsrc with ⟨_,e,cs,hb⟩|⟨_,e,t2,l2,hb⟩
    ·simpa[aA,hb] using hR
    ·simpa[aA,hb] using hR
   unfold aA;rw[hmo];cases o<;>first|trivial|exact hv'.trans hg.symm
  ·rw[h1];have hs':=hsl' i;rw[h2] at hs';obtain⟨one,arr,hv,hsz,hcl⟩:=hs';refine⟨one,arr,hv,hsz,?_⟩;have hlow':=sQ hlow h4;have key:∀ (ids:List Nat) (g:Nat->Value->Prop),(∀ id∈ids,ju id L.ms=true)->(∀ id∈ids,id<1000000000000000000000000000000)->aR P w F' (aA m2 γ) (qM ids) g->aR P w F' (aA (bN L.ms y) (ce γ s.at m2 L.ms)) (qM ids) g:=by
    intro ids
    induction ids with
    |nil=>intro g _ _ _; trivial
    |cons id ids ih=>
     intro g h3 hl hr;obtain⟨⟨u0,k1,k2,b,hR,k4⟩,hrest⟩:=hr;refine⟨⟨u0,k1,k2,b,?_,k4⟩,ih _ (λj hj=>h3 j (ubg _ hj)) (λj hj=>hl j (ubg _ hj)) hrest⟩;obtain⟨o,hmo,hsrc⟩:=oQ hext (h3 id (by simp)) (λt e ty _=>by have:=hl id (by simp); unfold bn; omega) (hl id (by simp));have hg:ce γ s.at m2 L.ms id=γ id:=by unfold ce; rw[hsrc]
     have hv':(Value.pointer (some ⟨b,0,none⟩))=γ id:=by
      rcases jW hext id id hsrc with ⟨_,e,cs,hb⟩|⟨_,e,t2,l2,hb⟩
      ·simpa[aA,hb] using hR
      ·simpa[aA,hb] using hR
     unfold aA;rw[hmo];cases o<;>first|trivial|exact hv'.trans hg.symm
   exact key _ _ h3 hlow' hcl
  ·rw[h1];obtain⟨⟨e,t',l,h2⟩,h6⟩:=qr (sJ hlow hx) hext hlow hx;have hs':=hsl' i;have key:eT a E i=ce γ s.at m2 L.ms (bn s0)/\(eT a E i).oneCell'=true:=by
    rcases h6 with ⟨k,e1,t1,l1,k1,k2,k3⟩|⟨k1,k2⟩
    ·rcases h5 with ⟨k',q1,q2⟩|⟨q1,q2⟩
     ·rw[q2] at k1;cases k1;rw[q1] at hs';have hv:aA m2 γ _ (eT a E i):=hs'.2;simp only[aA,k2] at hv;exact⟨hv.trans k3.symm,hs'.1⟩
     ·rw[q2] at k1;cases k1
    ·rcases h5 with ⟨k',q1,q2⟩|⟨q1,q2⟩
     ·rw[q2] at k1;cases k1
     ·rw[q1] at hs';exact⟨hs'.2.trans k2.symm,hs'.1⟩
   refine⟨key.2,?_⟩;show aA (bN L.ms y) (ce γ s.at m2 L.ms) (bn s0) (eT a E i);unfold aA;rw[h2];exact key.1
 refine⟨F',ce γ s.at m2 L.ms,hi.n,hi.df,?_,⟨λid o ho=>(hob id o ho _ hHR).1,λi j oi oj b hij hoi hoj hb hb'=>?_⟩,λt=>?_,λt g want v ht=>?_,λt=>?_⟩
 ·obtain⟨γ0,h0⟩:=hi.step;have:=h0.trans hs;exact⟨γ0,this.hF,this.hw,λ_ _ hh=>hh.elim,this.old,this.os,this.tape,this.output,this.size,this.bd,this.new⟩
 ·rcases(hob i oi hoi _ hHR).2 with ⟨k,o0,s1,m1,e1⟩|e1
  ·rcases(hob j oj hoj _ hHR).2 with ⟨k',o0',s2,m2,e2⟩|e2
   ·by_cases hk:k=k'
    ·subst hk;exact hij (qp hext i j k s1 s2)
    ·exact hm.apart k k' o0 o0' b hk m1 m2 (e1.trans hb) (e2.trans hb')
   ·rw[e2] at hb'; cases hb'
  ·rw[e1] at hb; cases hb
 ·show eL P w F' _ _ (if t<10000 then qY L.vs xv (bG L.ms) t else .dead) _;split
  ·rename_i ht;have:=hall t;unfold eT at this;rw[if_pos ht] at this;exact A6 this
  ·trivial
 ·exfalso;have ht':(if t<10000 then qY L.vs xv (bG L.ms) t else .dead) = .maybe g want v:=ht;split at ht'
  ·have:=hall t;rw[ht'] at this;exact this
  ·cases ht'
 ·have:=hall (t+10000);unfold eT at this;rw[if_neg (by omega),uby] at this;exact this
end
end Go.Ab
