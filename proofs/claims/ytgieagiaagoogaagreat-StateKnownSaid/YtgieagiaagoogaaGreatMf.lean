/-
  Parts of the proof, one behind the other: I18, I19, I20, I21, I22, I23, I12, I13, I24, I25, I15, I26, I27, I29, I30, K1, S1, S5, AbG, S2.
-/
import Derived.Test.YtgieagiaagoogaaGreatMe
import Derived.Defers
import Derived.MapKept
import Derived.Carry
import Derived.WalkKit
import Derived.RangeFuncNested
import Derived.Lib.Overlaps
import Derived.Lib.AppendZerosOnto
import Derived.Laws.NewBlocks
import Derived.Deep.RegionLaw
namespace Go.Proofs.YtgieagiaagoogaaGreat
open Go Go.Ab Go.RowKit Go.Proofs Go.Shelf
attribute [local go_sem] Oper.semAt_some
def qhk (f:Nat->Nat) (k:Nat):List Nat:=(List.range k).map f
theorem qp3 (f:Nat->Nat) (k:Nat):qhk f (k+1)=qhk f k++[f k]:=by simp [qhk,List.range_succ]
theorem qtk (f:Nat->Nat) (k:Nat):(qhk f k).length=k:=by simp [qhk]
def yov (c:Nat->Nat->Value) (k:Nat):Value:=.agg #[c k 0,c k 1,c k 2,c k 3,c k 4,c k 5,c k 6,c k 7,c k 8]
set_option maxRecDepth 100000 in
set_option maxHeartbeats 2000000 in
theorem yai (n:Nat) (hn:1<=n) (l Bs n₀ b off len cap:Nat) (c:Nat->Nat->Value) (hreach:len<=1000000) (A:Option Addr) (hA:0 < len->A=some ⟨b,off,none⟩/\b < n₀) (J Jx:List (Fin len)->World->Prop)
  (hY:∀ pre (k:Fin len) W,J pre W->pre.length < len->YieldAt Fence.wide (n - 1) Tryz.prog l #[.int .i64 ((k.1:Nat):Int),yov c k.1] W fun e W'=>
   (e = .returned (.bool true)/\J (pre++[k]) W'/\KpS n₀ Bs Bs W W') ∨ (e = .returned (.bool false)/\Jx (pre++[k]) W'))
  (W:World) (hBs:W.heap[Bs]? = some (.cells #[.slice A len cap] 22 (0,0))) (hc:∀ k j,k < len->j < 9->W.cell? ⟨b,off+(k * 9+j),none⟩=some (c k j)) (h0:J [] W) :
  CallsIn Fence.wide n Tryz.prog 154 #[.func (.yield l) #[] #[],.pointer (some ⟨Bs,0,none⟩)] W fun e W'=>(∃ v,e = .returned v) /\
   ((∃ ys:List (Fin len),ys.map Fin.val=qhk (fun j=>len - 1 - j) len/\J ys W') ∨ (∃ pre:List (Fin len),(∃ k,k<=len/\pre.map Fin.val=qhk (fun j=>len - 1 - j) k)/\Jx pre W')):=by
 have hro:Fence.wide.round=none:=rfl
 refine callsIn_of_wp Tryz.func154 rfl trivial ?_ hro
 simp only [Tryz.ntmps154,List.size_toArray,List.length_cons,List.length_nil,Nat.reduceAdd,Nat.reduceSub,Array.replicate_succ,Array.replicate_zero,List.push_toArray,List.append_toArray,List.nil_append,List.cons_append]
 have c0:W.cell? ⟨Bs,0,none⟩=some (.slice A len cap):=qh hBs 0
 gi_wp2
 gi_loopw [3] (fun i wr=>∃ (k:Nat) (pre:List (Fin len)),k<=len/\i = .int .i64 ((len:Int) - 1 - k)/\pre.map Fin.val=qhk (fun j=>len - 1 - j) k/\J pre wr/\KpS n₀ Bs Bs W wr)
  (fun i _=>(intOf i+1).toNat)
 case atStart=>exact ⟨0,[],Nat.zero_le _,by simp,rfl,h0,KpS.refl _ _ _ _⟩
 case round=>
  obtain ⟨k,pre,hk,rfl,hpre,hJs,hnx⟩:=hrel
  have e0:wr.cell? ⟨Bs,0,none⟩=some (.slice A len cap):=qh (hnx.2.1.trans hBs) 0
  by_cases hlt:k < len
  ·obtain ⟨rfl,hb⟩:=hA (by omega)
   obtain ⟨fn,tmps,assign,body,hy,hR⟩:=hY pre ⟨len - 1 - k,by omega⟩ wr hJs (by have:=congrArg List.length hpre; rw [qtk,List.length_map] at this; omega)
   have hcx:∀ j,j < 9->wr.cell? ⟨b,off+(len - 1 - k) * 9+j,none⟩=some (c (len - 1 - k) j):=fun j hj=>by
    rw [Nat.add_assoc]
    exact (hnx.1.cell (p:=⟨b,off+((len - 1 - k) * 9+j),none⟩) hb).trans (hc _ j (by omega) hj)
   have x0:=hcx 0 (by omega)
   have x1:=hcx 1 (by omega)
   have x2:=hcx 2 (by omega)
   have x3:=hcx 3 (by omega)
   have x4:=hcx 4 (by omega)
   have x5:=hcx 5 (by omega)
   have x6:=hcx 6 (by omega)
   have x7:=hcx 7 (by omega)
   have x8:=hcx 8 (by omega)
   rw [Nat.add_zero] at x0
   have ek:((len - 1 - k:Nat):Int)=(len:Int) - 1 - k:=by omega
   dsimp only at hy
   rw [ek] at hy
   unfold yov at hy
   clear hcx hc hBs
   gi_wp2
   refine hR.mono ?_
   rintro e W3 (⟨rfl,hJ3,hk3⟩ | ⟨rfl,hJx3⟩)
   ·gi_wp2
    go_roundw
    case rel=>exact ⟨k+1,pre++[⟨len - 1 - k,by omega⟩],by omega,by simp; omega,by rw [qp3,List.map_append,hpre]; rfl,hJ3,hnx.trans hk3⟩
    case measure=>simp [intOf]; omega
   ·gi_wp2
    refine bodyPost_ret (results_none rfl _ _ _) rfl ?_
    exact ⟨⟨_,rfl⟩,.inr ⟨_,⟨k+1,by omega,by rw [qp3,List.map_append,hpre]; rfl⟩,hJx3⟩⟩
  ·obtain rfl:k=len:=by omega
   gi_wp2
   go_end0
   exact ⟨⟨_,rfl⟩,.inl ⟨_,hpre,hJs⟩⟩
end Go.Proofs.YtgieagiaagoogaaGreat
namespace Go.Ab
open Go Go.RowKit
def Ty.plain:Ty->Bool
 |.fm _=>false
 |.ic _ _=>false
 |.sl e=>e.plain&&decide (0 < e.size)
 |.pair a b=>a.plain&&b.plain
 |_=>true
theorem qs.some_cell {w:World} {F:Nat->Prop}:{t:Ty} -> {x:t.den} -> {g:Nat->Value->Prop}->0 < t.size->qs w F t x g->∃ j u,g j u
 |.int _,_,_,_,h=>⟨0,_,h.1⟩
 |.bool,_,_,_,h=>⟨0,_,h⟩
 |.str,_,_,_,h=>⟨0,_,h.1⟩
 |.sl _,_,_,_,h=>by
  obtain ⟨A,c,h1,_⟩:=h
  exact ⟨0,_,h1⟩
 |.unit,_,_,h,_=>absurd h (by decide)
 |.pair a b,_,_,h,hr=>by
  by_cases ha:0 < a.size
  ·exact qs.some_cell ha hr.1
  ·have hb:0 < b.size:=by simp only [Ty.size] at h; omega
   obtain ⟨j,u,hu⟩:=qs.some_cell hb hr.2
   exact ⟨_,u,hu⟩
 |.fm _,_,_,_,h=>by
  obtain ⟨r,arr,ck,h1,_⟩:=h
  exact ⟨0,_,h1⟩
 |.ic _ _,_,_,_,h=>by
  rcases h with ⟨ty,u,_,h2,_⟩ | ⟨_,h2⟩
  ·exact ⟨0,_,h2⟩
  ·exact ⟨0,_,h2⟩
 |.fc _,_,_,_,h=>by
  obtain ⟨u,h1,_⟩:=h
  exact ⟨0,_,h1⟩
theorem qru {w:World} {a:Addr} {u:Value} (h:w.cell? a=some u):∃ arr ty p,w.heap[a.block]? = some (.cells arr ty p):=by
 unfold World.cell? at h
 split at h
 ·rename_i arr ty p he
  exact ⟨arr,ty,p,he⟩
 ·cases h
theorem qs.only {w:World} {F G:Nat->Prop} (hG:∀ b,F b->(∃ arr ty p,w.heap[b]? = some (.cells arr ty p))->G b):{t:Ty} -> {x:t.den} -> {g:Nat->Value->Prop}->t.plain=true->qs w F t x g->qs w G t x g
 |.int _,_,_,_,h=>h
 |.bool,_,_,_,h=>h
 |.str,_,_,_,h=>h
 |.sl e,_,_,hp,h=>by
  obtain ⟨A,c,h1,h2,h3,h4⟩:=h
  simp only [Ty.plain,Bool.and_eq_true,decide_eq_true_eq] at hp
  refine ⟨A,c,h1,h2,h3,fun i x hx=>?_⟩
  obtain ⟨ad,ha,hf,hr⟩:=h4 i x hx
  obtain ⟨j,u,hu⟩:=qs.some_cell hp.2 hr
  have hc:=qru hu
  have hb:(ad.add (i * e.size+j)).block=ad.block:=by unfold Addr.add; split<;>rfl
  rw [hb] at hc
  exact ⟨ad,ha,hG _ hf hc,qs.only hG hp.1 hr⟩
 |.unit,_,_,_,_=>trivial
 |.pair a b,_,_,hp,h=>by
  simp only [Ty.plain,Bool.and_eq_true] at hp
  exact ⟨qs.only hG hp.1 h.1,qs.only hG hp.2 h.2⟩
 |.fm _,_,_,hp,_=>by cases hp
 |.ic _ _,_,_,hp,_=>by cases hp
 |.fc _,_,_,_,h=>h
theorem zt.only {w:World} {F G:Nat->Prop} (hG:∀ b,F b->(∃ arr ty p,w.heap[b]? = some (.cells arr ty p))->G b) {t:Ty} {x:t.den} {v:Value} (hp:t.plain=true) (h:zt w F t x v):zt w G t x v:=
 ⟨h.1,h.2.1,h.2.2.only hG hp⟩
end Go.Ab
namespace Go.Proofs.YtgieagiaagoogaaGreat
open Go Go.Ab Go.RowKit Go.Proofs Go.Shelf
attribute [local go_sem] Oper.semAt_some
structure VC where
 p:Nat->Int
 A:Nat->Option Addr
 l:Nat->Nat
 c:Nat->Nat
def qd7 (d:VC):Array Value:=#[.int .i64 (d.p 0),.int .i64 (d.p 1),.int .i64 (d.p 2),.int .i64 (d.p 3),.int .i64 (d.p 4),.slice (d.A 0) (d.l 0) (d.c 0),.slice (d.A 1) (d.l 1) (d.c 1),.slice (d.A 2) (d.l 2) (d.c 2),.int .i64 (d.p 5)]
def qh3 (d:VC):Value:=.agg (qd7 d)
theorem zfj {w:World} {F:Nat->Prop} {x:qt.den} {g:Nat->Value->Prop} (h:qs w F qt x g):∃ d:VC,(∀ j u,(qd7 d)[j]? = some u->g j u)/\d.p 0=x.1:=by
 obtain ⟨h0,⟨b0,b1,b2,b3,_⟩,⟨A1,c1,h1,_⟩,⟨A2,c2,h2,_⟩,⟨A3,c3,h3,_⟩,h4,_⟩:=h
 refine ⟨⟨fun j=>match j with | 0=>x.1 | 1=>x.2.1.1 | 2=>x.2.1.2.1 | 3=>x.2.1.2.2.1 | 4=>x.2.1.2.2.2.1 | _=>x.2.2.2.2.2.1,fun j=>match j with | 0=>A1 | 1=>A2 | _=>A3,fun j=>match j with | 0=>x.2.2.1.length | 1=>x.2.2.2.1.length | _=>x.2.2.2.2.1.length,fun j=>match j with | 0=>c1 | 1=>c2 | _=>c3⟩,fun j u hj=>?_,rfl⟩
 match j,hj with
 |0,hj=>cases hj; exact h0.1
 |1,hj=>cases hj; exact b0.1
 |2,hj=>cases hj; exact b1.1
 |3,hj=>cases hj; exact b2.1
 |4,hj=>cases hj; exact b3.1
 |5,hj=>cases hj; exact h1
 |6,hj=>cases hj; exact h2
 |7,hj=>cases hj; exact h3
 |8,hj=>cases hj; exact h4.1
 |j+9,hj=>simp [qd7] at hj
theorem ykc {w:World} {F:Nat->Prop} {x:qt.den} {v:Value} (h:zt w F qt x v):∃ d:VC,v=qh3 d/\d.p 0=x.1:=by
 obtain ⟨cs,rfl⟩:=h.2.1.1 rfl
 have hs:cs.size=9:=h.1
 obtain ⟨d,hd,h0⟩:=zfj h.2.2
 refine ⟨d,?_,h0⟩
 unfold qh3
 congr 1
 apply Array.ext
 ·exact hs
 ·intro i hi1 hi2
  have:=hd i (qd7 d)[i] (Array.getElem?_eq_getElem hi2)
  have h2:cs[i]? = some (qd7 d)[i]:=this
  rw [Array.getElem?_eq_getElem hi1] at h2
  exact Option.some.inj h2
def qfv:Array Value:=#[.int .i64 0,.int .i64 0,.int .i64 0,.int .i64 0,.int .i64 0,.slice none 0 0,.slice none 0 0,.slice none 0 0,.int .i64 0]
def zu8 (F:Nat->Prop) (x:qt.den) (d:VC) (W w':World):Prop:=
 ∃ F',zt w' F' qt x (qh3 d)/\∀ b,F' b->(F b ∨ W.heap.size<=b)/\∃ arr ty p,w'.heap[b]? = some (.cells arr ty p)
theorem zx4 {w W:World} {F:Nat->Prop} {x:qt.den} {v:Value} (hb:∀ b,F b->b < w.heap.size) (hW:Below w.heap.size w W) (hx:zt w F qt x v) (hf:zmt x) :
  Calls Tryz.prog 113 #[v] W fun e w'=>∃ d,e = .returned (qh3 d)/\Below W.heap.size W w'/\zu8 F x d W w':=by
 have hx':zt W F qt x v:=hx.mono (fun _ h=>h) (fun b h=>hW.block b (hb b h))
 refine (yn1.2 W F (x,()) [v] (fun b h=>Nat.lt_of_lt_of_le (hb b h) hW.size) ⟨v,[],rfl,hx',rfl⟩ hf).mono ?_
 rintro e w' ⟨u,F',rfl,hbel,h1,h2,h3⟩
 have h3':zt w' F' qt x u:=h3
 obtain ⟨d,rfl,_⟩:=ykc h3'
 exact ⟨d,rfl,hbel,fun b=>F' b/\∃ arr ty p,w'.heap[b]? = some (.cells arr ty p),h3'.only (fun b h hc=>⟨h,hc⟩) rfl,fun b h=>⟨(h2 b h.1).1,h.2⟩⟩
structure AtI (w:World) {len:Nat} (day:Int) (sv:Value) (fr:Nat->Int) (pre:List (Fin len)) (W:World):Prop where
 x3:Boxed W (w.heap.size+1) 3 (.int .i64 day)
 x4:W.heap[w.heap.size+2]? = some (.cells qfv 132 (0,0))
 x5:Boxed W (w.heap.size+3) 57 (.int .i64 0)
 xs:Boxed W (w.heap.size+4) 22 sv
 bel:Below w.heap.size w W
 sz:w.heap.size+5<=W.heap.size
 no:∀ k ∈ pre,¬ fr k.1<=day
structure AtX (w:World) {len:Nat} (F:Nat->Prop) (day:Int) (x:Nat->qt.den) (fr:Nat->Int) (c:Code) (pre:List (Fin len)) (W:World):Prop where
 ret:c = .ret
 res:∃ ini k d F',pre=ini++[k]/\(∀ k ∈ ini,¬ fr k.1<=day)/\fr k.1<=day/\W.heap[w.heap.size+2]? = some (.cells (qd7 d) 132 (0,0))/\zt W F' qt (x k.1) (qh3 d)/\(∀ b,F' b->(F b ∨ w.heap.size<=b)/\∃ arr ty p,W.heap[b]? = some (.cells arr ty p))
 x5:Boxed W (w.heap.size+3) 57 (.int .i64 0)
 bel:Below w.heap.size w W
theorem qd9 {X Y:World} {row:Option Nat} {B b:Nat} {cs:Array Value} {t:TypeId} {p:Nat × Nat} (h:X.heap[b]? = some (.cells cs t p)) (hg:X.grownBy Y row) (hr:∀ r,row=some r->B<=r/\∃ o:Obj,X.heap[r]? = some o/\o.isCells=false):Y.heap[b]? = some (.cells cs t p):=
 (hg.block b (Array.getElem?_eq_some_iff.1 h).1 (fun e=>by
  obtain ⟨_,o,ho,hc⟩:=hr b e.symm
  rw [h] at ho
  cases ho
  cases hc)).trans h
theorem ygz {w:World} {len:Nat} {day:Int} {sv:Value} {fr:Nat->Int} {B:Nat} (hB:w.heap.size<=B):OwnFrom B (fun (pre:List (Fin len)) W=>AtI w day sv fr pre W):=fun pre X Y row h hg hr=>
 ⟨qbk h.x3 hg hr,qd9 h.x4 hg hr,qbk h.x5 hg hr,qbk h.xs hg hr,h.bel.grown hg h.bel.size (fun k e=>Nat.le_trans hB (hr k e).1),Nat.le_trans h.sz hg.size,h.no⟩
theorem yg0 {w:World} {len:Nat} {F:Nat->Prop} {day:Int} {x:Nat->qt.den} {fr:Nat->Int} {B:Nat} (hB:w.heap.size<=B) (c:Code):OwnFrom B (fun (pre:List (Fin len)) W=>AtX w F day x fr c pre W):=fun pre X Y row h hg hr=>by
 refine ⟨h.ret,?_,qbk h.x5 hg hr,h.bel.grown hg h.bel.size (fun k e=>Nat.le_trans hB (hr k e).1)⟩
 obtain ⟨ini,k,d,F',e1,e2,e3,e4,e5,e6⟩:=h.res
 refine ⟨ini,k,d,F',e1,e2,e3,qd9 e4 hg hr,e5.mono (fun _ h=>h) (fun b hb=>?_),fun b hb=>?_⟩
 ·obtain ⟨_,arr,ty,p,hc⟩:=e6 b hb
  rw [hc]
  exact qd9 hc hg hr
 ·obtain ⟨hh,arr,ty,p,hc⟩:=e6 b hb
  exact ⟨hh,arr,ty,p,qd9 hc hg hr⟩
def AtA (w0:Nat) (c:Nat->VC) (a:Nat->Nat->Act) (k:Nat) (a':Act) (W:World):Prop:=∃ Bx,w0<=Bx/\W.heap[Bx]? = some (.cells (qd7 (c k)) 132 (0,0))/\a'=a k Bx
theorem ygx {w0 B:Nat} {c:Nat->VC} {a:Nat->Nat->Act} (k:Nat) (a':Act):OwnFrom B (fun (_:Unit) W=>AtA w0 c a k a' W):=fun _ X Y row hs hg hr=>by
 obtain ⟨Bx,h1,h2,h3⟩:=hs
 exact ⟨Bx,h1,qd9 h2 hg hr,h3⟩
set_option maxRecDepth 100000 in
set_option maxHeartbeats 1000000 in
theorem yg1 (n:Nat) (A:Option Addr) (len cap:Nat) (w:World) :
  CallsIn Fence.wide n Tryz.prog 112 #[.slice A len cap] w fun e w'=>e = .returned (.func (.func 154) #[] #[.pointer (some ⟨w.heap.size,0,none⟩)])/\w'=w.alloc (.cells #[.slice A len cap] 22):=by
 refine callsIn_of_wp Tryz.func112 rfl trivial ?_ rfl
 simp only [Tryz.ntmps112,List.size_toArray,List.length_cons,List.length_nil,Nat.reduceAdd,Nat.reduceSub,Array.replicate_succ,Array.replicate_zero,List.push_toArray,List.append_toArray,List.nil_append,List.cons_append]
 gi_wp2
 go_ret
 exact ⟨rfl,rfl⟩
end Go.Proofs.YtgieagiaagoogaaGreat
namespace Go.Proofs.YtgieagiaagoogaaGreat
open Go Go.Ab Go.RowKit Go.Proofs Go.Shelf
attribute [local go_sem] Oper.semAt_some
def yo0 (w:World) (F:Nat->Prop) (day:Int) (x:Nat->qt.den) (fr:Nat->Int) (len:Nat) (e:Ending) (w':World):Prop:=
 (e = .returned (.tuple #[.agg qfv,.int .i64 7])/\∀ k,k < len->¬ fr k<=day) ∨
 ∃ k d F',k < len/\fr k<=day/\(∀ j,k < j->j < len->¬ fr j<=day)/\e = .returned (.tuple #[qh3 d,.int .i64 0])/\zt w' F' qt (x k) (qh3 d)/\(∀ b,F' b->(F b ∨ w.heap.size<=b)/\b < w'.heap.size)
theorem qrf {W:World} {B:Nat} {a0 a1 a2 a3 a4 a5 a6 a7 a8:Value} {t:TypeId} (h:W.heap[B]? = some (.cells #[a0,a1,a2,a3,a4,a5,a6,a7,a8] t (0,0))) (v0 v1 v2 v3 v4 v5 v6 v7 v8:Value) :
  (W.setCells B 0 [v0,v1,v2,v3,v4,v5,v6,v7,v8]).heap[B]? = some (.cells #[v0,v1,v2,v3,v4,v5,v6,v7,v8] t (0,0)):=by
 have h0:=heap_setCell_same W B 0 _ t v0 h
 rw [show (#[a0,a1,a2,a3,a4,a5,a6,a7,a8]:Array Value).setIfInBounds 0 v0 = #[v0,a1,a2,a3,a4,a5,a6,a7,a8] from rfl] at h0
 have h1:=heap_setCell_same _ B 1 _ t v1 h0
 rw [show (#[v0,a1,a2,a3,a4,a5,a6,a7,a8]:Array Value).setIfInBounds 1 v1 = #[v0,v1,a2,a3,a4,a5,a6,a7,a8] from rfl] at h1
 have h2:=heap_setCell_same _ B 2 _ t v2 h1
 rw [show (#[v0,v1,a2,a3,a4,a5,a6,a7,a8]:Array Value).setIfInBounds 2 v2 = #[v0,v1,v2,a3,a4,a5,a6,a7,a8] from rfl] at h2
 have h3:=heap_setCell_same _ B 3 _ t v3 h2
 rw [show (#[v0,v1,v2,a3,a4,a5,a6,a7,a8]:Array Value).setIfInBounds 3 v3 = #[v0,v1,v2,v3,a4,a5,a6,a7,a8] from rfl] at h3
 have h4:=heap_setCell_same _ B 4 _ t v4 h3
 rw [show (#[v0,v1,v2,v3,a4,a5,a6,a7,a8]:Array Value).setIfInBounds 4 v4 = #[v0,v1,v2,v3,v4,a5,a6,a7,a8] from rfl] at h4
 have h5:=heap_setCell_same _ B 5 _ t v5 h4
 rw [show (#[v0,v1,v2,v3,v4,a5,a6,a7,a8]:Array Value).setIfInBounds 5 v5 = #[v0,v1,v2,v3,v4,v5,a6,a7,a8] from rfl] at h5
 have h6:=heap_setCell_same _ B 6 _ t v6 h5
 rw [show (#[v0,v1,v2,v3,v4,v5,a6,a7,a8]:Array Value).setIfInBounds 6 v6 = #[v0,v1,v2,v3,v4,v5,v6,a7,a8] from rfl] at h6
 have h7:=heap_setCell_same _ B 7 _ t v7 h6
 rw [show (#[v0,v1,v2,v3,v4,v5,v6,a7,a8]:Array Value).setIfInBounds 7 v7 = #[v0,v1,v2,v3,v4,v5,v6,v7,a8] from rfl] at h7
 have h8:=heap_setCell_same _ B 8 _ t v8 h7
 rw [show (#[v0,v1,v2,v3,v4,v5,v6,v7,a8]:Array Value).setIfInBounds 8 v8 = #[v0,v1,v2,v3,v4,v5,v6,v7,v8] from rfl] at h8
 exact h8
theorem qg3 {B k:Nat} (h:k ≠ B):(vs:List Value)->(o:Nat)->(W:World)->(W.setCells B o vs).heap[k]? = W.heap[k]?
 |[],_,_=>rfl
 |v :: r,o,W=>(qg3 h r (o+1) _).trans (heap_setCell_other W _ k v h)
theorem qkl {B n:Nat} (h:n<=B):(vs:List Value)->(o:Nat)->(W:World)->Below n W (W.setCells B o vs)
 |[],_,W=>Below.refl n W
 |v :: r,o,W=>((Below.refl n W).setCell (p:=⟨B,o,none⟩) h v).trans (qkl h r (o+1) _)
theorem qkm {B:Nat}:(vs:List Value)->(o:Nat)->(W:World)->KeepsOthers W (W.setCells B o vs)
 |[],_,W=>KeepsOthers.refl W
 |v :: r,o,W=>(KeepsOthers.setCell W _ v).trans (qkm r (o+1) _)
theorem zns {B:Nat} {W W':World} (h:Below W.heap.size W W'):KeepsFrom B W W':=
 ⟨h.size,fun k o _ hk _=>(h.block k (Array.getElem?_eq_some_iff.1 hk).1).trans hk⟩
set_option maxRecDepth 100000 in
theorem zvg {W:World} {R:Ending->World->Prop} {D z:Nat} {v0 v1 v2 v3 v4 v5 v6 v7 v8 a0 a1 a2 a3 a6 a7 a8 a9 a10 a11 a12 a13 a14 a15 a16 a17 a18 a19:Value} {n:Int}
  (z4:W.heap[z+2]? = some (.cells #[v0,v1,v2,v3,v4,v5,v6,v7,v8] 132 (0,0))) (z5:Boxed W (z+3) 57 (.int .i64 n)) (hK:W.heap[D]? = some (.deferred (some []))) (hD:z+5<=D)
  (hR:R (.returned (.tuple #[.agg #[v0,v1,v2,v3,v4,v5,v6,v7,v8],.int .i64 n])) (W.putObj D (.deferred none))) :
  bodyPostM Fence.wide 8 Tryz.prog Tryz.f76 R .ret { tmps:=#[a0,a1,a2,a3,.pointer (some ⟨z+1+1,0,none⟩),.pointer (some ⟨z+1+1+1,0,none⟩),a6,a7,a8,a9,a10,a11,a12,a13,a14,a15,a16,a17,a18,a19],defers:=[{ target:=.collected D,args:=#[] }] } W:=by
 have k4:=(World.putObj_heap_other (w:=W) (r:=D) (k:=z+2) (o:=.deferred none) (by omega)).trans z4
 have k5:(W.putObj D (.deferred none)).heap[z+3]? = _:=(World.putObj_heap_other (w:=W) (r:=D) (k:=z+3) (o:=.deferred none) (by omega)).trans z5
 have u0:=qh k4 0
 have u1:=qh k4 1
 have u2:=qh k4 2
 have u3:=qh k4 3
 have u4:=qh k4 4
 have u5:=qh k4 5
 have u6:=qh k4 6
 have u7:=qh k4 7
 have u8:=qh k4 8
 simp at u0 u1 u2 u3 u4 u5 u6 u7 u8
 have g5:=qh k5 0
 simp at g5
 refine ⟨by simp,.inl ⟨_,_,rfl,run_takeDeferred hK,?_⟩⟩
 refine ⟨.tuple #[.agg #[v0,v1,v2,v3,v4,v5,v6,v7,v8],.int .i64 n],?_,hR⟩
 simp [results,Tryz.results76,go_sem,u0,u1,u2,u3,u4,u5,u6,u7,u8,g5]
set_option maxRecDepth 100000 in
set_option maxHeartbeats 4000000 in
theorem ypc (b off len cap:Nat) (day:Int) (c:Nat->VC) (x:Nat->qt.den) (F:Nat->Prop) (w:World) (hlen:len<=1000000) (A:Option Addr) (hA:0 < len->A=some ⟨b,off,none⟩/\b < w.heap.size) (hbF:∀ q,F q->q < w.heap.size)
  (hc:∀ k j u,k < len->(qd7 (c k))[j]? = some u->w.cell? ⟨b,off+(k * 9+j),none⟩=some u)
  (hown:∀ k W,k < len->Below w.heap.size w W->Calls Tryz.prog 113 #[qh3 (c k)] W fun e w'=>∃ d,e = .returned (qh3 d)/\Below W.heap.size W w'/\zu8 F (x k) d W w') :
  CallsIn Fence.wide 8 Tryz.prog 76 #[.agg #[.slice A len cap],.int .i64 day] w fun e w'=>yo0 w F day x (fun k=>(c k).p 0) len e w'/\Below w.heap.size w w':=by
 refine callsIn_of_wp_marks Tryz.func76 rfl trivial ?_ rfl
 simp only [Tryz.ntmps76,List.size_toArray,List.length_cons,List.length_nil,Nat.reduceAdd,Nat.reduceSub,Array.replicate_succ,Array.replicate_zero,List.push_toArray,List.append_toArray,List.nil_append,List.cons_append]
 gi_wp2_with (refine ⟨trivial,?_⟩; gi_at_call 112; refine (yg1 _ _ _ _ _).mono ?_; rintro e w' ⟨rfl,rfl⟩)
 have q1:=World.alloc_heap_new (w.alloc (.cells #[.slice A len cap] 24)) (.cells #[.int .i64 day] 3)
 have q2:=World.alloc_heap_new ((w.alloc (.cells #[.slice A len cap] 24)).alloc (.cells #[.int .i64 day] 3)) (.cells qfv 132)
 have q3:=World.alloc_heap_new (((w.alloc (.cells #[.slice A len cap] 24)).alloc (.cells #[.int .i64 day] 3)).alloc (.cells qfv 132)) (.cells #[.int .i64 0] 57)
 have q4:=World.alloc_heap_new ((((w.alloc (.cells #[.slice A len cap] 24)).alloc (.cells #[.int .i64 day] 3)).alloc (.cells qfv 132)).alloc (.cells #[.int .i64 0] 57)) (.cells #[.slice A len cap] 22)
 have hbel:Below w.heap.size w (((((w.alloc (.cells #[.slice A len cap] 24)).alloc (.cells #[.int .i64 day] 3)).alloc (.cells qfv 132)).alloc (.cells #[.int .i64 0] 57)).alloc (.cells #[.slice A len cap] 22)):=
  (((((Below.refl _ w).alloc (Nat.le_refl _) _).alloc (by simp) _).alloc (by simp; omega) _).alloc (by simp; omega) _).alloc (by simp; omega) _
 have hsz:(((((w.alloc (.cells #[.slice A len cap] 24)).alloc (.cells #[.int .i64 day] 3)).alloc (.cells qfv 132)).alloc (.cells #[.int .i64 0] 57)).alloc (.cells #[.slice A len cap] 22)).heap.size=w.heap.size+5:=by simp
 simp only [World.size_alloc] at q1 q2 q3 q4
 have r1:=(Below.heap_alloc ((((w.alloc (.cells #[.slice A len cap] 24)).alloc (.cells #[.int .i64 day] 3)).alloc (.cells qfv 132)).alloc (.cells #[.int .i64 0] 57)) (.cells #[.slice A len cap] 22) (w.heap.size+1) (by simp only [World.size_alloc]; omega)).trans ((Below.heap_alloc _ _ _ (by simp only [World.size_alloc]; omega)).trans ((Below.heap_alloc _ _ _ (by simp only [World.size_alloc]; omega)).trans q1))
 have r2:=(Below.heap_alloc ((((w.alloc (.cells #[.slice A len cap] 24)).alloc (.cells #[.int .i64 day] 3)).alloc (.cells qfv 132)).alloc (.cells #[.int .i64 0] 57)) (.cells #[.slice A len cap] 22) (w.heap.size+1+1) (by simp only [World.size_alloc]; omega)).trans ((Below.heap_alloc _ _ _ (by simp only [World.size_alloc]; omega)).trans q2)
 have r3:=(Below.heap_alloc ((((w.alloc (.cells #[.slice A len cap] 24)).alloc (.cells #[.int .i64 day] 3)).alloc (.cells qfv 132)).alloc (.cells #[.int .i64 0] 57)) (.cells #[.slice A len cap] 22) (w.heap.size+1+1+1) (by simp only [World.size_alloc]; omega)).trans q3
 unfold qfv at hbel hsz r1 r2 r3 q4
 obtain ⟨W0,hW0⟩:∃ W0,((((w.alloc (.cells #[.slice A len cap] 24)).alloc (.cells #[.int .i64 day] 3)).alloc (.cells #[.int .i64 0,.int .i64 0,.int .i64 0,.int .i64 0,.int .i64 0,.slice none 0 0,.slice none 0 0,.slice none 0 0,.int .i64 0] 132)).alloc (.cells #[.int .i64 0] 57)).alloc (.cells #[.slice A len cap] 22)=W0:=⟨_,rfl⟩
 rw [hW0] at hbel hsz r1 r2 r3 q4 ⊢
 clear hW0 q1 q2 q3
 have hI0:AtI w day (.slice A len cap) (fun k=>(c k).p 0) ([]:List (Fin len)) W0:=⟨r1,r2,r3,q4,hbel,by omega,fun k hk=>by cases hk⟩
 refine wpIn_rangeFunc_ownH rfl (by omega) (gf:=154) (lb:=#[.pointer (some ⟨w.heap.size+1+1+1+1,0,none⟩)]) rfl trivial (enters_of Tryz.func154 (by kernel_rfl) rfl)
  (α:=Fin len) (encs:=fun (k:Fin len)=>#[.int .i64 ((k.1:Nat):Int),qh3 (c k.1)]) (Kp:=KpS w.heap.size (w.heap.size+4) (w.heap.size+4)) (S:=fun ys=>ys.map Fin.val=qhk (fun j=>len - 1 - j) len) (Sp:=fun pre=>∃ k,k<=len/\pre.map Fin.val=qhk (fun j=>len - 1 - j) k) (N:=len) (w0:=W0)
  (fun l J Jx W hW _ _ hY h0=>yai 7 (by omega) l (w.heap.size+4) w.heap.size b off len cap (fun k j=>(qd7 (c k)).getD j undef) hlen A hA J Jx hY W ((hW.block _ (by omega)).trans q4) (fun k j hk hj=>have hb:=(hA (by omega)).2; ((hW.mono (by omega)).cell (p:=⟨b,off+(k * 9+j),none⟩) hb).trans ((hbel.cell (p:=⟨b,off+(k * 9+j),none⟩) hb).trans (hc k j _ hk (by match j,hj with | 0,_ | 1,_ | 2,_ | 3,_ | 4,_ | 5,_ | 6,_ | 7,_ | 8,_=>rfl)))) h0)
  (fun h k=>h.trans k) (fun W l o o' hl ho hoc how=>⟨belowK_b (w:=w) (Nat.le_refl _) W l o o' (by omega) ho hoc how,World.putObj_heap_other (by omega),World.putObj_heap_other (by omega)⟩) (Below.refl _ _) (fun _=>rfl)
  (fun pre W=>AtI w day (.slice A len cap) (fun k=>(c k).p 0) pre W)
  (fun cd pre W=>AtX w F day x (fun k=>(c k).p 0) cd pre W)
  (ygz (by omega)) (yg0 (by omega)) hI0
  (fun k a' W=>AtA W0.heap.size c (fun k Bx=>{ tmps:=#[.agg #[.slice A len cap],.int .i64 day,.pointer (some ⟨w.heap.size,0,none⟩),.pointer (some ⟨w.heap.size+1,0,none⟩),.pointer (some ⟨w.heap.size+1+1,0,none⟩),.pointer (some ⟨w.heap.size+1+1+1,0,none⟩),undef,.pointer (some ⟨Bx,0,none⟩),
   .pointer (some ⟨w.heap.size,0,none⟩),.slice A len cap,.func (.func 154) #[] #[.pointer (some ⟨w.heap.size+1+1+1+1,0,none⟩)],.int .i64 (k:Int),qh3 (c k),undef,undef,undef,undef,undef,undef,undef],defers:=[] }) k.1 a' W)
  (fun k a'=>ygx k.1 a') ?assign ?body ?done ?stop
 case assign=>
  rintro l pre ⟨k,hkl⟩ W K hi hK
  unfold qh3 qd7
  gi_wp2
  have hsz1:=hi.sz
  have hB:=(Below.refl w.heap.size W).alloc (by have:=hi.bel.size; omega) (.cells (qd7 (c k)) 132)
  exact hK _ _ ((KeepsOthers.alloc _ _).from _) (KpS.below ((Below.refl _ W).alloc (Nat.le_refl _) _) hi.bel.size (by omega) (by omega))
   ⟨hi.x3.alloc _,(Below.heap_alloc _ _ _ (by omega)).trans hi.x4,hi.x5.alloc _,hi.xs.alloc _,hi.bel.alloc hi.bel.size _,by simp; omega,hi.no⟩ ⟨W.heap.size,by omega,World.alloc_heap_new W _,rfl⟩
 case body=>
  rintro l pre ⟨k,hkl⟩ a' W hl ⟨r,hr⟩ hi ⟨Bx,hBx,bX,rfl⟩ hlt
  have bX':=bX
  unfold qd7 at bX'
  have y0:=qh bX' 0
  have y1:=qh bX' 1
  have y2:=qh bX' 2
  have y3:=qh bX' 3
  have y4:=qh bX' 4
  have y5:=qh bX' 5
  have y6:=qh bX' 6
  have y7:=qh bX' 7
  have y8:=qh bX' 8
  simp at y0 y1 y2 y3 y4 y5 y6 y7 y8
  have c3:=hi.x3.cell
  have hown':=hown k W hkl hi.bel
  unfold qh3 qd7 at hown'
  clear bX' hr hc hown
  gi_wp2
  ·refine ⟨trivial,?_⟩
   refine (CallsIn.inRound l (callsIn_wide.2 hown')).mono ?_
   rintro e w1 ⟨d,rfl,hb1,hres⟩
   have hsz1:=hi.sz
   have z4:=(hb1.block (w.heap.size+2) (by omega)).trans hi.x4
   have z5:w1.heap[w.heap.size+3]? = _:=(hb1.block (w.heap.size+3) (by omega)).trans hi.x5
   unfold qfv at z4
   have u0:=qh z4 0
   have u1:=qh z4 1
   have u2:=qh z4 2
   have u3:=qh z4 3
   have u4:=qh z4 4
   have u5:=qh z4 5
   have u6:=qh z4 6
   have u7:=qh z4 7
   have u8:=qh z4 8
   simp at u0 u1 u2 u3 u4 u5 u6 u7 u8
   have ff:∀ j,w1.frozen? ⟨w.heap.size+2,j,none⟩=false:=fun j=>by simp [World.frozen?,z4]
   have g5:=qh z5 0
   have h5:w1.frozen? ⟨w.heap.size+3,0,none⟩=false:=by simp [World.frozen?,z5]
   gi_wp2
   have hday:(c k).p 0<=day:=by assumption
   have s4:=qrf z4 (.int .i64 (d.p 0)) (.int .i64 (d.p 1)) (.int .i64 (d.p 2)) (.int .i64 (d.p 3)) (.int .i64 (d.p 4)) (.slice (d.A 0) (d.l 0) (d.c 0)) (.slice (d.A 1) (d.l 1) (d.c 1)) (.slice (d.A 2) (d.l 2) (d.c 2)) (.int .i64 (d.p 5))
   have s5:Boxed (w1.setCells (w.heap.size+2) 0 [.int .i64 (d.p 0),.int .i64 (d.p 1),.int .i64 (d.p 2),.int .i64 (d.p 3),.int .i64 (d.p 4),.slice (d.A 0) (d.l 0) (d.c 0),.slice (d.A 1) (d.l 1) (d.c 1),.slice (d.A 2) (d.l 2) (d.c 2),.int .i64 (d.p 5)]) (w.heap.size+3) 57 (.int .i64 0):=(qg3 (by omega) _ _ _).trans z5
   have kk:=qkm (B:=w.heap.size+2) [.int .i64 (d.p 0),.int .i64 (d.p 1),.int .i64 (d.p 2),.int .i64 (d.p 3),.int .i64 (d.p 4),.slice (d.A 0) (d.l 0) (d.c 0),.slice (d.A 1) (d.l 1) (d.c 1),.slice (d.A 2) (d.l 2) (d.c 2),.int .i64 (d.p 5)] 0 w1
   have bb:=qkl (B:=w.heap.size+2) (n:=w.heap.size) (by omega) [.int .i64 (d.p 0),.int .i64 (d.p 1),.int .i64 (d.p 2),.int .i64 (d.p 3),.int .i64 (d.p 4),.slice (d.A 0) (d.l 0) (d.c 0),.slice (d.A 1) (d.l 1) (d.c 1),.slice (d.A 2) (d.l 2) (d.c 2),.int .i64 (d.p 5)] 0 w1
   have oo:∀ q,q ≠ w.heap.size+2->(w1.setCells (w.heap.size+2) 0 [.int .i64 (d.p 0),.int .i64 (d.p 1),.int .i64 (d.p 2),.int .i64 (d.p 3),.int .i64 (d.p 4),.slice (d.A 0) (d.l 0) (d.c 0),.slice (d.A 1) (d.l 1) (d.c 1),.slice (d.A 2) (d.l 2) (d.c 2),.int .i64 (d.p 5)]).heap[q]? = w1.heap[q]? := fun q hq=>qg3 hq _ _ _
   show KeepsFrom _ W ((w1.setCells (w.heap.size+2) 0 [.int .i64 (d.p 0),.int .i64 (d.p 1),.int .i64 (d.p 2),.int .i64 (d.p 3),.int .i64 (d.p 4),.slice (d.A 0) (d.l 0) (d.c 0),.slice (d.A 1) (d.l 1) (d.c 1),.slice (d.A 2) (d.l 2) (d.c 2),.int .i64 (d.p 5)]).setCell ⟨w.heap.size+3,0,none⟩ (.int .i64 0))/\AtX w F day x (fun k=>(c k).p 0) .ret (pre++[⟨k,hkl⟩]) ((w1.setCells (w.heap.size+2) 0 [.int .i64 (d.p 0),.int .i64 (d.p 1),.int .i64 (d.p 2),.int .i64 (d.p 3),.int .i64 (d.p 4),.slice (d.A 0) (d.l 0) (d.c 0),.slice (d.A 1) (d.l 1) (d.c 1),.slice (d.A 2) (d.l 2) (d.c 2),.int .i64 (d.p 5)]).setCell ⟨w.heap.size+3,0,none⟩ (.int .i64 0))
   generalize w1.setCells (w.heap.size+2) 0 [.int .i64 (d.p 0),.int .i64 (d.p 1),.int .i64 (d.p 2),.int .i64 (d.p 3),.int .i64 (d.p 4),.slice (d.A 0) (d.l 0) (d.c 0),.slice (d.A 1) (d.l 1) (d.c 1),.slice (d.A 2) (d.l 2) (d.c 2),.int .i64 (d.p 5)]=W2 at *
   obtain ⟨F',hF1,hF2⟩:=hres
   have bel2:Below w.heap.size w W2:=(hi.bel.trans (hb1.mono hi.bel.size)).trans bb
   have hne:∀ q,F' q->q ≠ w.heap.size+2/\q ≠ w.heap.size+3:=fun q hq=>by
    have hs0:=hi.sz
    rcases (hF2 q hq).1 with h | h
    ·have:=hbF q h
     omega
    ·omega
   have hsame:∀ q,F' q->(W2.setCell ⟨w.heap.size+3,0,none⟩ (.int .i64 0)).heap[q]? = w1.heap[q]? := fun q hq=>(heap_setCell_other _ _ q _ (hne q hq).2).trans (oo q (hne q hq).1)
   refine ⟨(zns hb1).trans ((kk.trans (KeepsOthers.setCell _ _ _)).from _),rfl,⟨pre,⟨k,hkl⟩,d,F',rfl,hi.no,hday,(heap_setCell_other _ _ _ _ (by show w.heap.size+2 ≠ w.heap.size+3; omega)).trans s4,hF1.mono (fun _ h=>h) hsame,fun q hq=>?_⟩,s5.set _,bel2.setCell (p:=⟨w.heap.size+3,0,none⟩) (by show w.heap.size<=w.heap.size+3; omega) _⟩
   obtain ⟨q1,arr,ty,p,q2⟩:=hF2 q hq
   exact ⟨q1.elim .inl (fun h=>.inr (Nat.le_trans hi.bel.size h)),arr,ty,p,(hsame q hq).trans q2⟩
  ·have hday:¬ (c k).p 0<=day:=by simp_all
   exact ⟨KeepsFrom.refl _ _,KpS.refl _ _ _ _,hi.x3,hi.x4,hi.x5,hi.xs,hi.bel,hi.sz,fun q hq=>(List.mem_append.1 hq).elim (hi.no q) (fun e=>by simp at e; subst e; exact hday)⟩
 case done=>
  rintro D zs W hD hzs hi hK
  have z4:=hi.x4
  have z5:W.heap[w.heap.size+3]? = _:=hi.x5
  unfold qfv at z4
  have u0:=qh z4 0
  have u1:=qh z4 1
  have u2:=qh z4 2
  have u3:=qh z4 3
  have u4:=qh z4 4
  have u5:=qh z4 5
  have u6:=qh z4 6
  have u7:=qh z4 7
  have u8:=qh z4 8
  simp at u0 u1 u2 u3 u4 u5 u6 u7 u8
  have ff:∀ j,W.frozen? ⟨w.heap.size+2,j,none⟩=false:=fun j=>by simp [World.frozen?,z4]
  have g5:=qh z5 0
  have h5:W.frozen? ⟨w.heap.size+3,0,none⟩=false:=by simp [World.frozen?,z5]
  clear hown hc
  gi_wp2
  have s4:=qrf z4 (.int .i64 0) (.int .i64 0) (.int .i64 0) (.int .i64 0) (.int .i64 0) (.slice none 0 0) (.slice none 0 0) (.slice none 0 0) (.int .i64 0)
  have s5:Boxed (W.setCells (w.heap.size+2) 0 [.int .i64 0,.int .i64 0,.int .i64 0,.int .i64 0,.int .i64 0,.slice none 0 0,.slice none 0 0,.slice none 0 0,.int .i64 0]) (w.heap.size+3) 57 (.int .i64 0):=(qg3 (by omega) _ _ _).trans z5
  have kk:=(qkm (B:=w.heap.size+2) [.int .i64 0,.int .i64 0,.int .i64 0,.int .i64 0,.int .i64 0,.slice none 0 0,.slice none 0 0,.slice none 0 0,.int .i64 0] 0 W).same D _ hK rfl
  have bb:=hi.bel.trans (qkl (B:=w.heap.size+2) (n:=w.heap.size) (by omega) [.int .i64 0,.int .i64 0,.int .i64 0,.int .i64 0,.int .i64 0,.slice none 0 0,.slice none 0 0,.slice none 0 0,.int .i64 0] 0 W)
  have kk':=(KeepsOthers.setCell (W.setCells (w.heap.size+2) 0 [.int .i64 0,.int .i64 0,.int .i64 0,.int .i64 0,.int .i64 0,.slice none 0 0,.slice none 0 0,.slice none 0 0,.int .i64 0]) ⟨w.heap.size+3,0,none⟩ (.int .i64 7)).same D _ kk rfl
  have bb':=bb.setCell (p:=⟨w.heap.size+3,0,none⟩) (by show w.heap.size<=w.heap.size+3; omega) (.int .i64 7)
  refine zvg ((heap_setCell_other _ _ _ _ (by show w.heap.size+2 ≠ w.heap.size+3; omega)).trans s4) (s5.set (.int .i64 7)) kk' (by omega) ⟨.inl ⟨rfl,fun k hk=>?_⟩,bb'.trans (belowK_b (w:=w) (Nat.le_refl _) _ D _ _ (by omega) kk' rfl rfl)⟩
  have hm:k ∈ zs.map Fin.val:=by
   rw [hzs]
   exact List.mem_map.2 ⟨len - 1 - k,List.mem_range.2 (by omega),by show len - 1 - (len - 1 - k)=k; omega⟩
  obtain ⟨q,hq,rfl⟩:=List.mem_map.1 hm
  exact hi.no q hq
 case stop=>
  rintro D cd pre W hD ⟨m,hm,hpre⟩ h hK
  obtain rfl:=h.ret
  gi_wp2
  obtain ⟨ini,k,d,F',e1,e2,e3,e4,e5,e6⟩:=h.res
  refine zvg e4 h.x5 hK (by omega) ⟨.inr ⟨k.1,d,F',k.2,e3,fun j hj1 hj2=>?_,rfl,?_,fun q hq=>?_⟩,h.bel.trans (belowK_b (w:=w) (Nat.le_refl _) _ D _ _ (by omega) hK rfl rfl)⟩
  ·subst e1
   have hl:=congrArg List.length hpre
   rw [qtk,List.length_map,List.length_append] at hl
   obtain rfl:m=ini.length+1:=by simpa using hl.symm
   rw [qp3,List.map_append] at hpre
   obtain ⟨h2,h3⟩:=List.append_inj' hpre rfl
   have hlast:k.1=len - 1 - ini.length:=by simpa using h3
   have hin:j ∈ (ini.map Fin.val):=by
    rw [h2]
    exact List.mem_map.2 ⟨len - 1 - j,List.mem_range.2 (by omega),by show len - 1 - (len - 1 - j)=j; omega⟩
   obtain ⟨q,hq,rfl⟩:=List.mem_map.1 hin
   exact e2 q hq
  ·refine e5.mono (fun _ h=>h) (fun q hq=>?_)
   obtain ⟨_,arr,ty,p,hc2⟩:=e6 q hq
   exact World.putObj_heap_other (fun e=>by subst e; rw [hK] at hc2; cases hc2)
  ·obtain ⟨h1,arr,ty,p,hc2⟩:=e6 q hq
   refine ⟨h1,?_⟩
   have:=(Array.getElem?_eq_some_iff.1 hc2).1
   simpa [World.putObj] using this
end Go.Proofs.YtgieagiaagoogaaGreat
namespace Go.Proofs.YtgieagiaagoogaaGreat
open Go Go.Ab Go.RowKit Go.Proofs Go.Shelf
theorem zuy {w:World} {F:Nat->Prop} {l:List qt.den} {v:Value} (h:qs w F (.sl qt) l (fun _ u=>u=v)) :
  ∃ (A:Option Addr) (cap:Nat) (b off:Nat) (c:Nat->VC),v = .slice A l.length cap/\(0 < l.length->A=some ⟨b,off,none⟩/\F b) /\
   (∀ k j u,k < l.length->(qd7 (c k))[j]? = some u->w.cell? ⟨b,off+(k * 9+j),none⟩=some u)/\∀ k x,l[k]? = some x->(c k).p 0=x.1/\zt w F qt x (qh3 (c k)):=by
 obtain ⟨A,cap,h0,h1,h2,h3⟩:=h
 by_cases hp:0 < l.length
 ·obtain ⟨ad,hA,hF,hc⟩:=h3 0 l[0] (List.getElem?_eq_getElem hp)
  have hsp:ad.spot=none:=by
   have hc':w.cell? (ad.add (0 * qt.size+0))=some (.int .i64 l[0].1):=hc.1.1
   have he:ad.add (0 * qt.size+0)=ad:=by simp [Addr.add]
   rw [he] at hc'
   unfold World.cell? at hc'
   split at hc'
   ·split at hc'
    ·cases hc'
    ·rename_i hsp
     cases hsp2:ad.spot with
     |none=>rfl
     |some _=>rw [hsp2] at hsp; exact absurd rfl hsp
   ·cases hc'
  obtain ⟨b,off,sp⟩:=ad
  simp only at hsp
  subst hsp
  have hall:∀ k,∃ d:VC,∀ x,l[k]? = some x->(∀ j u,(qd7 d)[j]? = some u->w.cell? ⟨b,off+(k * 9+j),none⟩=some u)/\d.p 0=x.1/\zt w F qt x (qh3 d):=by
   intro k
   cases hk:l[k]? with
   |none=>exact ⟨⟨fun _=>0,fun _=>none,fun _=>0,fun _=>0⟩,fun x hx=>by cases hx⟩
   |some x=>
    obtain ⟨ad',hA',_,hr⟩:=h3 k x hk
    rw [hA] at hA'
    cases hA'
    obtain ⟨d,hd,hd0⟩:=zfj hr
    refine ⟨d,fun y hy=>?_⟩
    cases hy
    have hcell:∀ j u,(qd7 d)[j]? = some u->w.cell? ⟨b,off+(k * 9+j),none⟩=some u:=fun j u hj=>by
     have:=hd j u hj
     rw [show qt.size=9 from rfl] at this
     have e:(⟨b,off,none⟩:Addr).add (k * 9+j)=⟨b,off+(k * 9+j),none⟩:=by unfold Addr.add; split<;>simp_all
     rw [e] at this
     exact this
    refine ⟨hcell,hd0,rfl,⟨fun _=>⟨_,rfl⟩,fun _=>rfl⟩,?_⟩
    refine hr.mono (fun _ h=>h) (fun _ _=>rfl) fun j u hj hu=>?_
    have hj9:j < (qd7 d).size:=hj
    have h2:=hd j (qd7 d)[j] (Array.getElem?_eq_getElem hj9)
    have h3:some u=some (qd7 d)[j]:=hu.symm.trans h2
    show (qd7 d)[j]? = some u
    rw [Array.getElem?_eq_getElem hj9]
    exact h3.symm
  obtain ⟨c,hcc⟩:=Classical.axiomOfChoice hall
  refine ⟨A,cap,b,off,c,h0.symm,fun _=>⟨hA,hF⟩,fun k j u hk hj=>(hcc k l[k] (List.getElem?_eq_getElem hk)).1 j u hj,fun k x hx=>(hcc k x hx).2⟩
 ·refine ⟨A,cap,0,0,fun _=>⟨fun _=>0,fun _=>none,fun _=>0,fun _=>0⟩,h0.symm,fun h=>absurd h hp,fun k j u hk=>absurd hk (by omega),fun k x hx=>?_⟩
  have:=(List.getElem?_eq_some_iff.1 hx).1
  omega
theorem qvu (day:Int) (b:List qt.den):(a:List qt.den)->(∀ v ∈ a,¬ v.1<=day)->ym day (a++b)=ym day b
 |[],_=>rfl
 |v :: a,h=>by
  have hv:¬ v.1<=day:=h v (by simp)
  have:ym day (v :: a++b)=ym day (a++b):=if_neg hv
  rw [this]
  exact qvu day b a fun x hx=>h x (by simp [hx])
theorem yex {day:Int} {l:List qt.den} (h:∀ v ∈ l,¬ v.1<=day):ym day l.reverse=(zap,7):=by
 have:=qvu day [] l.reverse fun v hv=>h v (List.mem_reverse.1 hv)
 rw [List.append_nil] at this
 exact this
theorem zzk {day:Int} {l:List qt.den} {k:Nat} {x:qt.den} (hk:l[k]? = some x) (hx:x.1<=day) (h:∀ j y,k < j->l[j]? = some y->¬ y.1<=day):ym day l.reverse=(x,0):=by
 obtain ⟨hlt,rfl⟩:=List.getElem?_eq_some_iff.1 hk
 have hsplit:l=l.take k++l[k] :: l.drop (k+1):=by
  rw [← List.drop_eq_getElem_cons hlt,List.take_append_drop]
 have hr:l.reverse=(l.drop (k+1)).reverse++(l[k] :: (l.take k).reverse):=by
  conv=>lhs; rw [hsplit]
  simp
 rw [hr,qvu]
 ·exact if_pos hx
 ·intro v hv
  obtain ⟨j,hj⟩:=List.getElem?_of_mem (List.mem_reverse.1 hv)
  rw [List.getElem?_drop] at hj
  exact h _ v (by omega) hj
def jq (t:zd.den):Prop:=t.1.length<=1000000/\∀ v ∈ t.1,zmt v
def qt0:Ct:=⟨[.d zd,.d i64],[qt,i64],fun x=>((ym x.2.1 x.1.1.reverse).1,(ym x.2.1 x.1.1.reverse).2,()),fun x=>[jq x.1]⟩
theorem zxw (w:World) (F:Nat->Prop):zt w F qt zap (.agg qfv):=by
 have h0:inR .i64 0:=⟨by decide,by decide⟩
 refine ⟨rfl,⟨fun _=>⟨_,rfl⟩,fun _=>rfl⟩,⟨rfl,h0⟩,⟨⟨rfl,h0⟩,⟨rfl,h0⟩,⟨rfl,h0⟩,⟨rfl,h0⟩,trivial⟩,?_,?_,?_,⟨rfl,h0⟩,trivial⟩
 all_goals exact ⟨none,0,rfl,Nat.le_refl _,Nat.zero_le _,fun i x hx=>by simp [zap] at hx⟩
theorem zez {w:World} {F:Nat->Prop} {x:qt.den} {n:Int} {u:Value} (h:zt w F qt x u) (hn : -9223372036854775808<=n/\n<=9223372036854775807):qiz w F [qt,i64] (x,n,()) (.tuple #[u,.int .i64 n]):=
 ⟨_,rfl,_,_,rfl,h,_,_,rfl,⟨rfl,⟨fun h=>(by cases h),fun ⟨cs,h⟩=>(by cases h)⟩,rfl,hn⟩,rfl⟩
theorem yel:qa Tryz.prog 76 qt0:=by
 refine ⟨enters (fn:=Tryz.f76) (by kernel_rfl) rfl rfl,fun w F xs vs hbd hr hok=>?_⟩
 obtain ⟨⟨l,ut⟩,day,_⟩:=xs
 obtain ⟨va,vs',rfl,hva,vb,vs'',rfl,hvb,hn⟩:=hr
 cases hn
 have hva':zt w F zd (l,ut) va:=hva
 have hvb':zt w F i64 day vb:=hvb
 have hb2:vb = .int .i64 day:=by
  have h:qy Tryz.prog w F (fun _ _=>True) (qf1 i64 day) vb:=qbb hvb'
  exact h.2.1
 subst hb2
 obtain ⟨cs,rfl⟩:=hva'.2.1.1 rfl
 have hs:cs.size=1:=hva'.1
 obtain ⟨hsl,_⟩:qs w F (.sl qt) l (fun j u=>cs[j]? = some u)/\True:=⟨hva'.2.2.1,trivial⟩
 have hcs:cs = #[cs.getD 0 undef]:=by
  apply Array.ext
  ·simp [hs]
  ·intro i h1 h2
   have:i=0:=by omega
   subst this
   simp [Array.getD,hs]
 rw [hcs]
 have hsl':qs w F (.sl qt) l (fun _ u=>u=cs.getD 0 undef):=by
  obtain ⟨A,c,h1,h2⟩:=hsl
  refine ⟨A,c,?_,h2⟩
  simp [Array.getD,hs]
  rw [Array.getElem?_eq_getElem (by omega)] at h1
  exact (Option.some.inj h1).symm
 obtain ⟨A,cap,b,off,c,e1,hA,hc,hx⟩:=zuy hsl'
 rw [e1]
 obtain ⟨hfew1,hfew2⟩:jq (l,ut):=hok
 have key:=ypc b off l.length cap day c (fun k=>l.getD k qt.dflt) F w hfew1 A (fun h=>⟨(hA h).1,hbd b (hA h).2⟩) hbd hc (fun k W hk hW=>by
  obtain ⟨_,h2⟩:=hx k l[k] (List.getElem?_eq_getElem hk)
  have e:l.getD k qt.dflt=l[k]:=by rw [List.getD_eq_getElem?_getD,List.getElem?_eq_getElem hk]; rfl
  rw [e]
  exact zx4 hbd hW h2 (hfew2 _ (List.getElem_mem hk)))
 refine (callsIn_wide.1 key).mono ?_
 rintro e w' ⟨he,hbel⟩
 rcases he with ⟨rfl,hno⟩ | ⟨k,d,F',hk,hday,hafter,rfl,hrep,hF'⟩
 ·have hv:ym day l.reverse=(zap,7):=yex fun v hv=>by
   obtain ⟨j,hj⟩:=List.getElem?_of_mem hv
   have:=hno j (List.getElem?_eq_some_iff.1 hj).1
   dsimp only at this
   rw [(hx j v hj).1] at this
   exact this
  refine ⟨_,F,rfl,hbel,fun _ h=>h,fun b hb=>⟨.inl hb,Nat.lt_of_lt_of_le (hbd b hb) hbel.size⟩,?_⟩
  show qiz w' F [qt,i64] ((ym day l.reverse).1,(ym day l.reverse).2,()) _
  rw [hv]
  exact zez (zxw _ _) (n:=7) (by decide)
 ·have hlk:l[k]? = some l[k]:=List.getElem?_eq_getElem hk
  have hv:ym day l.reverse=(l[k],0):=zzk hlk (by dsimp only at hday; rw [(hx k _ hlk).1] at hday; exact hday) fun j y hj hy=>by
   have:=hafter j hj (List.getElem?_eq_some_iff.1 hy).1
   dsimp only at this
   rw [(hx j y hy).1] at this
   exact this
  have e:l.getD k qt.dflt=l[k]:=by rw [List.getD_eq_getElem?_getD,hlk]; rfl
  dsimp only at hrep
  rw [e] at hrep
  refine ⟨_,fun b=>F b ∨ F' b,rfl,hbel,fun _ h=>.inl h,fun b hb=>?_,?_⟩
  ·rcases hb with h | h
   ·exact ⟨.inl h,Nat.lt_of_lt_of_le (hbd b h) hbel.size⟩
   ·exact hF' b h
  ·show qiz w' _ [qt,i64] ((ym day l.reverse).1,(ym day l.reverse).2,()) _
   rw [hv]
   exact zez (hrep.mono (fun _ h=>.inr h) (fun _ _=>rfl)) (n:=0) (by decide)
attribute [local go_sem] Oper.semAt_some
theorem yac (Bn Ba Bo:Nat) (k:Int) (A:Option Addr) (len cap:Nat) (w:World) (hn:Boxed w Bn 3 (.int .i64 k)) (ha:Boxed w Ba 251 (.slice A len cap)) (ho:Boxed w Bo 4 (.bool false)) :
  CallsD Tryz.prog 178 #[.pointer (some ⟨Bn,0,none⟩),.pointer (some ⟨Ba,0,none⟩),.pointer (some ⟨Bo,0,none⟩)] .returning w fun e u' w'=>
   u' = .returning/\(∃ v,e = .returned v)/\w'=w.setCell ⟨Bo,0,none⟩ (.bool (decide (k=len))):=by
 have c1:=hn.cell
 have c2:=ha.cell
 have c3:=ho.cell
 have f3:=ho.frozen
 go_enter_d Tryz.func178,Tryz.ntmps178
 go_wp2
 go_end0
 exact ⟨⟨_,rfl⟩,by rw [Bool.beq_eq_decide_eq]⟩
structure AllI (w:World) (b off cap:Nat) (bs:Nat->Bool) (k:Nat) (W:World):Prop where
 x0:Boxed W w.heap.size 251 (.slice (some ⟨b,off,none⟩) 4 cap)
 x1:Boxed W (w.heap.size+1) 4 (.bool false)
 x2:Boxed W (w.heap.size+2) 3 (.int .i64 k)
 bel:Below w.heap.size w W
 sz:w.heap.size+3<=W.heap.size
 yes:∀ j,j < k->bs j=true
structure FourFn (w:World) (b off:Nat) (g:Nat->Nat) (caps:Nat->Array Value) (bs:Nat->Bool):Prop where
 blk:b < w.heap.size
 cell:∀ k,k < 4->w.cell? ⟨b,off+k,none⟩=some (.func (.func (g k)) #[] (caps k))
 enter:∀ k,k < 4->∀ args w,(callFunc (g k) args).run Tryz.prog w = .ok (.enter (g k) args) w
 call:∀ k,k < 4->∀ W,Below w.heap.size w W->Calls Tryz.prog (g k) (caps k) W fun e W'=>e = .returned (.bool (bs k))/\Below W.heap.size W W'
theorem zos {w W : World} {b off cap : Nat} {bs : Nat -> Bool} {k : Nat} {r : Bool} {a0 a4 a5 a7 a8 a9 a10 a11 a12 a13 a14 a15 a16 a17 a18 : Value} (hi : AllI w b off cap bs k W) (hr : decide ((k : Int) = (4 : Nat)) = r) :
    bodyPostD Tryz.prog Tryz.f137 (fun e w' => e = .returned (.bool r) /\ Below w.heap.size w w') .ret
      { tmps := #[a0, .pointer (some ⟨w.heap.size, 0, none⟩), .pointer (some ⟨w.heap.size + 1, 0, none⟩), .pointer (some ⟨w.heap.size + 1 + 1, 0, none⟩), a4, a5, .func (.func 178) #[] #[.pointer (some ⟨w.heap.size + 1 + 1, 0, none⟩), .pointer (some ⟨w.heap.size, 0, none⟩), .pointer (some ⟨w.heap.size + 1, 0, none⟩)], a7, a8, a9, a10, a11, a12, a13, a14, a15, a16, a17, a18],
        defers := [{ target := .fn (.func 178) #[.pointer (some ⟨w.heap.size + 1 + 1, 0, none⟩), .pointer (some ⟨w.heap.size, 0, none⟩), .pointer (some ⟨w.heap.size + 1, 0, none⟩)], args := #[] }] } W := by
  refine leaves_cons (f := 178) (args := #[.pointer (some ⟨w.heap.size + 2, 0, none⟩), .pointer (some ⟨w.heap.size, 0, none⟩), .pointer (some ⟨w.heap.size + 1, 0, none⟩)]) (by simp) (by simp [go_sem]) ?_
  refine (yac (w.heap.size + 2) w.heap.size (w.heap.size + 1) k _ 4 cap W hi.x2 hi.x0 hi.x1).mono ?_
  rintro e u' w'' ⟨rfl, ⟨v, rfl⟩, rfl⟩
  have c := (hi.x1.set (.bool (decide ((k : Int) = (4 : Nat))))).cell
  have hb := hi.bel.setCell (p := ⟨w.heap.size + 1, 0, none⟩) (by show w.heap.size <= w.heap.size + 1; omega) (.bool (decide ((k : Int) = (4 : Nat))))
  rw [hr] at c hb ⊢
  refine ⟨.bool r, ?_, rfl, hb⟩
  simp [results, Tryz.results137, go_sem, c]
set_option maxRecDepth 100000 in
set_option maxHeartbeats 1000000 in
theorem ygv (b off cap : Nat) (g : Nat -> Nat) (caps : Nat -> Array Value) (bs : Nat -> Bool) (w : World) (h : FourFn w b off g caps bs) :
    Calls Tryz.prog 137 #[.slice (some ⟨b, off, none⟩) 4 cap] w fun e w' => e = .returned (.bool (bs 0 && (bs 1 && (bs 2 && bs 3)))) /\ Below w.heap.size w w' := by
  have hmf : ∀ (fn : Fn) (first cap : Array Value) (w : World), (Instr.makeFunc fn first cap).run Tryz.prog w = .ok (.func fn first cap) w := fun _ _ _ _ => rfl
  go_enter_defers Tryz.func137, Tryz.ntmps137
  go_wp2
  have z0 := (Below.heap_alloc ((w.alloc (.cells #[.slice (some ⟨b, off, none⟩) 4 cap] 251)).alloc (.cells #[.bool false] 4)) (.cells #[.int .i64 0] 3) w.heap.size (by simp only [World.size_alloc]; omega)).trans ((Below.heap_alloc _ _ _ (by simp only [World.size_alloc]; omega)).trans (World.alloc_heap_new w (.cells #[.slice (some ⟨b, off, none⟩) 4 cap] 251)))
  have z1' := World.alloc_heap_new (w.alloc (.cells #[.slice (some ⟨b, off, none⟩) 4 cap] 251)) (.cells #[.bool false] 4)
  rw [World.size_alloc] at z1'
  have z1 := (Below.heap_alloc ((w.alloc (.cells #[.slice (some ⟨b, off, none⟩) 4 cap] 251)).alloc (.cells #[.bool false] 4)) (.cells #[.int .i64 0] 3) (w.heap.size + 1) (by simp only [World.size_alloc]; omega)).trans z1'
  have z2 : (((w.alloc (.cells #[.slice (some ⟨b, off, none⟩) 4 cap] 251)).alloc (.cells #[.bool false] 4)).alloc (.cells #[.int .i64 0] 3)).heap[w.heap.size + 2]? = some (.cells #[.int .i64 0] 3 (0, 0)) := by
    have := World.alloc_heap_new ((w.alloc (.cells #[.slice (some ⟨b, off, none⟩) 4 cap] 251)).alloc (.cells #[.bool false] 4)) (.cells #[.int .i64 0] 3)
    rwa [World.size_alloc, World.size_alloc] at this
  have hbel : Below w.heap.size w (((w.alloc (.cells #[.slice (some ⟨b, off, none⟩) 4 cap] 251)).alloc (.cells #[.bool false] 4)).alloc (.cells #[.int .i64 0] 3)) := (((Below.refl _ w).alloc (Nat.le_refl _) _).alloc (by simp) _).alloc (by simp; omega) _
  have hsz : (((w.alloc (.cells #[.slice (some ⟨b, off, none⟩) 4 cap] 251)).alloc (.cells #[.bool false] 4)).alloc (.cells #[.int .i64 0] 3)).heap.size = w.heap.size + 3 := by simp
  have hI0 : AllI w b off cap bs 0 (((w.alloc (.cells #[.slice (some ⟨b, off, none⟩) 4 cap] 251)).alloc (.cells #[.bool false] 4)).alloc (.cells #[.int .i64 0] 3)) := ⟨z0, z1, z2, hbel, by omega, fun j hj => by omega⟩
  go_loopw [9] (fun i wr => ∃ k : Nat, k <= 4 /\ i = .int .i64 k /\ AllI w b off cap bs k wr)
    (fun i _ => 4 - (intOf i).toNat)
  case atStart => exact ⟨0, by omega, rfl, hI0⟩
  case round =>
    obtain ⟨k, hk, rfl, hi⟩ := hrel
    by_cases hlt : k < 4
    · have hc : wr.cell? ⟨b, off + k, none⟩ = some (.func (.func (g k)) #[] (caps k)) := (hi.bel.cell (p := ⟨b, off + k, none⟩) h.blk).trans (h.cell k hlt)
      have he := h.enter k hlt
      have c2 := hi.x2.cell
      have f2 := hi.x2.frozen
      go_wp2
      refine (h.call k hlt wr hi.bel).mono ?_
      rintro e w1 ⟨rfl, hb1⟩
      have hs := hi.sz
      have y0 : Boxed w1 _ _ _ := (hb1.block _ (by omega)).trans hi.x0
      have y1 : Boxed w1 _ _ _ := (hb1.block (w.heap.size + 1) (by omega)).trans hi.x1
      have y2 : Boxed w1 _ _ _ := (hb1.block (w.heap.size + 2) (by omega)).trans hi.x2
      have hi1 : AllI w b off cap bs k w1 := ⟨y0, y1, y2, hi.bel.trans (hb1.mono hi.bel.size), Nat.le_trans hi.sz hb1.size, hi.yes⟩
      have d2 := y2.cell
      have e2 := y2.frozen
      clear hc he c2 f2
      cases hbk : bs k with
      | false =>
        go_wp2
        refine zos hi1 ?_
        have h4 : ¬ ((k : Int) = (4 : Nat)) := by omega
        rw [decide_eq_false h4]
        have : k = 0 ∨ k = 1 ∨ k = 2 ∨ k = 3 := by omega
        rcases this with rfl | rfl | rfl | rfl <;> rw [hbk] <;> simp
      | true =>
        go_wp2
        go_roundw
        case rel => exact ⟨k + 1, by omega, by simp, y0.other (by omega) _, y1.other (by omega) _, y2.set _, hi1.bel.setCell (p := ⟨w.heap.size + 2, 0, none⟩) (by show w.heap.size <= w.heap.size + 2; omega) _, by simp; exact hi1.sz, fun j hj => by
          by_cases hjk : j = k
          · rw [hjk]; exact hbk
          · exact hi.yes j (by omega)⟩
        case measure => simp [intOf]; omega
    · obtain rfl : k = 4 := by omega
      go_wp2
      refine zos hi ?_
      rw [hi.yes 0 (by omega), hi.yes 1 (by omega), hi.yes 2 (by omega), hi.yes 3 (by omega)]
      rfl
end Go.Proofs.YtgieagiaagoogaaGreat
namespace Go.Proofs.YtgieagiaagoogaaGreat
open Go Go.Ab Go.RowKit Go.Proofs Go.Shelf
attribute [local go_sem] Oper.semAt_some
noncomputable def yqm:Cx:=cx [(104,xr),(68,qnj),(141,qht),(143,qgn)] []
theorem qvw:CxOK Tryz.prog yqm:=zb qv ⟨qu8,zk1,zc8,qpk,trivial⟩ trivial
def tq (k:Nat) (t:zo.den):Bool:=match k with
 |0=>(xr.f (t.1,())).1
 |1=>bif decide ((qnj.f (t.1,())).1 ≥ 1) then decide ((qnj.f (t.1,())).1<=1100) else false
 |2=>(qht.f (t.2.1,())).1
 |_=>(qgn.f (t.2.2.1,())).1
def cTq (k:Nat):Ct:=⟨[.ptr zo],[.bool],fun x=>(tq k x.1,()),fun _=>[]⟩
theorem yop:qa Tryz.prog 138 (cTq 0):=
 vt (qg qvw (Λ:=qp) (fn:=Tryz.f138) (fr:=fun x=>Fr.val (tq 0 x.1,())) (ps:=[.ptr zo]) (rs:=[.bool]) (zo.dflt,()) (by kernel_rfl) (fun c E _=>qd c 0) (fun x=>by kernel_rfl)) _ _ (fun _ _ _ _ _ _=>⟨trivial,rfl⟩)
theorem yoq:qa Tryz.prog 139 (cTq 1):=
 vt (qg qvw (Λ:=qp) (fn:=Tryz.f139) (fr:=fun x=>Fr.val (tq 1 x.1,())) (ps:=[.ptr zo]) (rs:=[.bool]) (zo.dflt,()) (by kernel_rfl) (fun c E _=>qd c 0) (fun x=>by kernel_rfl)) _ _ (fun _ _ _ _ _ _=>⟨trivial,rfl⟩)
theorem yor:qa Tryz.prog 140 (cTq 2):=
 vt (qg qvw (Λ:=qp) (fn:=Tryz.f140) (fr:=fun x=>Fr.val (tq 2 x.1,())) (ps:=[.ptr zo]) (rs:=[.bool]) (zo.dflt,()) (by kernel_rfl) (fun c E _=>qd c 0) (fun x=>by kernel_rfl)) _ _ (fun _ _ _ _ _ _=>⟨trivial,rfl⟩)
theorem yos:qa Tryz.prog 142 (cTq 3):=
 vt (qg qvw (Λ:=qp) (fn:=Tryz.f142) (fr:=fun x=>Fr.val (tq 3 x.1,())) (ps:=[.ptr zo]) (rs:=[.bool]) (zo.dflt,()) (by kernel_rfl) (fun c E _=>qd c 0) (fun x=>by kernel_rfl)) _ _ (fun _ _ _ _ _ _=>⟨trivial,rfl⟩)
def tqF:Nat->Nat
 |0=>138
 |1=>139
 |2=>140
 |_=>142
theorem zzb:(k:Nat)->k < 4->qa Tryz.prog (tqF k) (cTq k)
 |0,_=>yop
 |1,_=>yoq
 |2,_=>yor
 |3,_=>yos
 |n+4,h=>absurd h (by omega)
theorem yj8 {a b:Int} (hf:wd (a,b,())=true):qdt (a,b,())=true/\decide (b - a ≥ 1)=true:=by
 obtain ⟨h1,h2,h3⟩:=qcp.1 hf
 refine ⟨?_,?_⟩
 ·have h2':a<=b:=Int.le_of_lt h2
  simp only [qdt,Bool.and_eq_true,decide_eq_true_eq]
  exact ⟨h1,h2',h3⟩
 ·simp; omega
theorem yem (t:zo.den):(tq 0 t&&(tq 1 t&&(tq 2 t&&tq 3 t)))=qeo t:=by
 obtain ⟨⟨a,b,_⟩,r,cs,_⟩:=t
 show (qdt (a,b,())&&((bif decide (qsn a b ≥ 1) then decide (qsn a b<=1100) else false)&&(qhz r.1 r.2.1 r.2.2.1 r.2.2.2.1&&qb5 cs)))=(wd (a,b,())&&(decide (b - a<=1100)&&(qhz r.1 r.2.1 r.2.2.1 r.2.2.2.1&&qb5 cs)))
 by_cases hf:wd (a,b,())=true
 ·have hm:qsn a b=b - a:=if_pos hf
  obtain ⟨hr,hge⟩:=yj8 hf
  rw [hm,hr,hf,hge]
  rfl
 ·have hm:qsn a b=0:=if_neg hf
  have hf':wd (a,b,())=false:=by simpa using hf
  rw [hm,hf']
  simp
set_option maxRecDepth 100000 in
set_option maxHeartbeats 1000000 in
theorem zy8 (c0 c1 c2 c3 c4 c5 c6:Value) (R:Ending->World->Prop) (w:World)
  (hall:∀ cap,Calls Tryz.prog 137 #[.slice (some ⟨w.heap.size+1,0,none⟩) 4 cap] ((w.alloc (.cells #[c0,c1,c2,c3,c4,c5,c6] 36)).alloc (.cells #[.func (.func (tqF 0)) #[] #[.pointer (some ⟨w.heap.size,0,none⟩)],.func (.func (tqF 1)) #[] #[.pointer (some ⟨w.heap.size,0,none⟩)],.func (.func (tqF 2)) #[] #[.pointer (some ⟨w.heap.size,0,none⟩)],.func (.func (tqF 3)) #[] #[.pointer (some ⟨w.heap.size,0,none⟩)]] 47)) R)
  (hR:∀ e w',R e w'->∃ r,e = .returned (.bool r)) :
  Calls Tryz.prog 98 #[.agg #[c0,c1,c2,c3,c4,c5,c6]] w R:=by
 have hmf:∀ (fn:Fn) (first cap:Array Value) (w:World),(Instr.makeFunc fn first cap).run Tryz.prog w = .ok (.func fn first cap) w:=fun _ _ _ _=>rfl
 go_enter Tryz.func98,Tryz.ntmps98
 go_wp2_with (go_at_call 137; refine (hall 4).mono ?_; rintro e w' hRe; obtain ⟨r,rfl⟩:=hR e w' hRe)
 exact hRe
theorem qvp:qa Tryz.prog 98 qhe:=by
 refine ⟨enters (fn:=Tryz.f98) (by kernel_rfl) rfl rfl,fun w F xs vs hbd hr _=>?_⟩
 obtain ⟨t,_⟩:=xs
 obtain ⟨va,vs',rfl,hva,hn⟩:=hr
 cases hn
 have hva':zt w F zo t va:=hva
 obtain ⟨cs,rfl⟩:=hva'.2.1.1 rfl
 have hs:cs.size=7:=hva'.1
 obtain ⟨c0,c1,c2,c3,c4,c5,c6,rfl⟩:∃ c0 c1 c2 c3 c4 c5 c6,cs = #[c0,c1,c2,c3,c4,c5,c6]:=by
  refine ⟨cs[0],cs[1],cs[2],cs[3],cs[4],cs[5],cs[6],?_⟩
  apply Array.ext
  ·simp [hs]
  ·intro i h1 h2
   have:i < 7:=by omega
   match i,this with
   |0,_ | 1,_ | 2,_ | 3,_ | 4,_ | 5,_ | 6,_=>rfl
 have hsz:((w.alloc (.cells #[c0,c1,c2,c3,c4,c5,c6] 36)).alloc (.cells #[.func (.func (tqF 0)) #[] #[.pointer (some ⟨w.heap.size,0,none⟩)],.func (.func (tqF 1)) #[] #[.pointer (some ⟨w.heap.size,0,none⟩)],.func (.func (tqF 2)) #[] #[.pointer (some ⟨w.heap.size,0,none⟩)],.func (.func (tqF 3)) #[] #[.pointer (some ⟨w.heap.size,0,none⟩)]] 47)).heap.size=w.heap.size+2:=by simp
 have z0:=(Below.heap_alloc (w.alloc (.cells #[c0,c1,c2,c3,c4,c5,c6] 36)) (.cells #[.func (.func (tqF 0)) #[] #[.pointer (some ⟨w.heap.size,0,none⟩)],.func (.func (tqF 1)) #[] #[.pointer (some ⟨w.heap.size,0,none⟩)],.func (.func (tqF 2)) #[] #[.pointer (some ⟨w.heap.size,0,none⟩)],.func (.func (tqF 3)) #[] #[.pointer (some ⟨w.heap.size,0,none⟩)]] 47) w.heap.size (by simp only [World.size_alloc]; omega)).trans (World.alloc_heap_new w (.cells #[c0,c1,c2,c3,c4,c5,c6] 36))
 have z1:=World.alloc_heap_new (w.alloc (.cells #[c0,c1,c2,c3,c4,c5,c6] 36)) (.cells #[.func (.func (tqF 0)) #[] #[.pointer (some ⟨w.heap.size,0,none⟩)],.func (.func (tqF 1)) #[] #[.pointer (some ⟨w.heap.size,0,none⟩)],.func (.func (tqF 2)) #[] #[.pointer (some ⟨w.heap.size,0,none⟩)],.func (.func (tqF 3)) #[] #[.pointer (some ⟨w.heap.size,0,none⟩)]] 47)
 have hbel:Below w.heap.size w ((w.alloc (.cells #[c0,c1,c2,c3,c4,c5,c6] 36)).alloc (.cells #[.func (.func (tqF 0)) #[] #[.pointer (some ⟨w.heap.size,0,none⟩)],.func (.func (tqF 1)) #[] #[.pointer (some ⟨w.heap.size,0,none⟩)],.func (.func (tqF 2)) #[] #[.pointer (some ⟨w.heap.size,0,none⟩)],.func (.func (tqF 3)) #[] #[.pointer (some ⟨w.heap.size,0,none⟩)]] 47)):=((Below.refl _ w).alloc (Nat.le_refl _) _).alloc (by simp) _
 refine (zy8 c0 c1 c2 c3 c4 c5 c6 (fun e w'=>e = .returned (.bool (qeo t))/\Below w.heap.size w w') w (fun cap=>?_) (fun e w' h=>⟨_,h.1⟩)).mono ?_
 ·rw [World.size_alloc] at z1
  generalize ((w.alloc (.cells #[c0,c1,c2,c3,c4,c5,c6] 36)).alloc (.cells #[.func (.func (tqF 0)) #[] #[.pointer (some ⟨w.heap.size,0,none⟩)],.func (.func (tqF 1)) #[] #[.pointer (some ⟨w.heap.size,0,none⟩)],.func (.func (tqF 2)) #[] #[.pointer (some ⟨w.heap.size,0,none⟩)],.func (.func (tqF 3)) #[] #[.pointer (some ⟨w.heap.size,0,none⟩)]] 47))=W0 at *
  have hf:FourFn W0 (w.heap.size+1) 0 tqF (fun _=>#[.pointer (some ⟨w.heap.size,0,none⟩)]) (fun k=>tq k t):=by
   refine ⟨by omega,fun k hk=>?_,fun k hk=>(zzb k hk).1,fun k hk W hW=>?_⟩
   ·rw [Nat.zero_add,qh z1 k]
    match k,hk with
    |0,_ | 1,_ | 2,_ | 3,_=>rfl
   ·have hz:W.heap[w.heap.size]? = _:=(hW.block _ (by omega)).trans z0
    have hrep:qs W (fun b=>F b ∨ b=w.heap.size) zo t (fun j u=>W.cell? ((⟨w.heap.size,0,none⟩:Addr).add j)=some u):=by
     refine hva'.2.2.mono (fun _ h=>.inl h) (fun b hb=>(hW.block b (by have:=hbd b hb; omega)).trans (hbel.block b (hbd b hb))) fun j u _ hu=>?_
     have e:(⟨w.heap.size,0,none⟩:Addr).add j=⟨w.heap.size,j,none⟩:=by unfold Addr.add; split<;>simp_all
     rw [e,qh hz j]
     exact hu
    refine ((zzb k hk).2 W (fun b=>F b ∨ b=w.heap.size) (t,()) [.pointer (some ⟨w.heap.size,0,none⟩)] (fun b hb=>?_) ⟨_,[],rfl,⟨⟨w.heap.size,0,none⟩,rfl,.inr rfl,hrep⟩,rfl⟩ trivial).mono ?_
    ·have:=hW.size
     rcases hb with h | h
     ·have:=hbd b h; omega
     ·omega
    ·rintro e W' ⟨v,F',rfl,hb',_,_,hv⟩
     have hv':qy Tryz.prog W' F' (fun _ _=>True) (qf1 .bool (tq k t)) v:=qbb hv
     exact ⟨by rw [show v = .bool (tq k t) from hv'.2],hb'⟩
  refine (ygv (w.heap.size+1) 0 cap tqF _ (fun k=>tq k t) W0 hf).mono ?_
  rintro e w' ⟨rfl,hb⟩
  rw [yem]
  exact ⟨rfl,hbel.trans (hb.mono (by omega))⟩
 ·rintro e w' ⟨rfl,hb⟩
  exact ⟨_,F,rfl,hb,fun _ h=>h,fun b h=>⟨.inl h,Nat.lt_of_lt_of_le (hbd b h) hb.size⟩,rfl,⟨fun h=>(by cases h),fun ⟨cs,h⟩=>(by cases h)⟩,rfl⟩
end Go.Proofs.YtgieagiaagoogaaGreat
namespace Go.Proofs.YtgieagiaagoogaaGreat
open Go Go.Ab Go.RowKit Go.Proofs
attribute [local go_sem] Oper.semAt_some
abbrev zij:List (Int × Nat):=[(1,179),(2,180),(3,181),(4,182)]
def zf4 (w:World) (r:Nat) (es:List (Int × Nat)):Prop:=∃ arr ck,w.heap[r]? = some (.map arr ck)/\arr.toList.map (fun e=>(e.key,e.val))=es.map (fun x=>(Value.int .i64 x.1,Value.func (.func x.2) #[] #[]))
theorem qmr {P:Program} {w:World} {t kt et:TypeId} {r f:Nat} {es:List (Int × Nat)} {n:Int} (ht:P.underlying t=some (.map kt et)) (hk:P.underlying kt=some (.int .i64))
  (h:zf4 w r es) (hn:es.find? (fun x=>x.1==n)=none) :
  ∃ w',(Instr.mapUpdate t (.map (some r)) (.int .i64 n) (.func (.func f) #[] #[])).run P w = .ok () w'/\zf4 w' r (es++[(n,f)])/\w'.heap.size=w.heap.size/\(∀ b,b ≠ r->w'.heap[b]? = w.heap[b]?)/\w'.os=w.os/\w'.tape=w.tape/\w'.output=w.output:=by
 obtain ⟨arr,ck,hr,he⟩:=h
 obtain ⟨j,hj⟩:=qp2 (n:=n) arr.toList es 0 he
 rw [hn] at hj
 have hck:(Instr.checkKey false 10000 kt (.int .i64 n)).run P w = .ok () w:=qt3 hk false 9999 n
 have hob:(getObj r).run P w = .ok (.map arr ck) w:=by simp [getObj,Sem.run,hr]
 have hlt:r < w.heap.size:=(Array.getElem?_eq_some_iff.1 hr).1
 refine ⟨{ w with heap:=w.heap.setIfInBounds r (.map (arr.push { key:=.int .i64 n,val:=.func (.func f) #[] #[],born:=ck }) (ck+1)) },?_,?_,?_,?_,rfl,rfl,rfl⟩
 ·simp [Instr.mapUpdate,run_underlying ht,hob,hck,Instr.findKey,run_underlying hk,hj,Go.MapKept.run_setObj_map _ hr]
 ·refine ⟨_,_,by simp [hlt]; exact ⟨rfl,rfl⟩,?_⟩
  simp [he]
 ·simp
 ·intro b hb
  simp [Array.getElem?_setIfInBounds,Ne.symm hb]
theorem qtf:Tryz.prog.underlying 224=some (.map 3 176):=by kernel_rfl
theorem qwu:Tryz.prog.underlying 3=some (.int .i64):=by kernel_rfl
set_option maxRecDepth 100000 in
set_option maxHeartbeats 1000000 in
theorem zrb (w:World):Calls Tryz.prog 144 #[] w fun e w'=>e = .returned (.map (some w.heap.size))/\zf4 w' w.heap.size zij/\Below w.heap.size w w'/\w'.heap.size=w.heap.size+1:=by
 have hmm:=@run_makeMap Tryz.prog
 have s0:zf4 (w.alloc (.map #[] 0)) w.heap.size []:=⟨#[],0,by show (w.heap.push _)[w.heap.size]? = _; exact Array.getElem?_push_size,rfl⟩
 go_enter Tryz.func144,Tryz.ntmps144
 obtain ⟨w1,r1,m1,z1,o1,a1,b1,c1⟩:=qmr (n:=1) (f:=179) qtf qwu s0 rfl
 obtain ⟨w2,r2,m2,z2,o2,a2,b2,c2⟩:=qmr (n:=2) (f:=180) qtf qwu m1 rfl
 obtain ⟨w3,r3,m3,z3,o3,a3,b3,c3⟩:=qmr (n:=3) (f:=181) qtf qwu m2 rfl
 obtain ⟨w4,r4,m4,z4,o4,a4,b4,c4⟩:=qmr (n:=4) (f:=182) qtf qwu m3 rfl
 go_wp2
 go_ret
 refine ⟨rfl,m4,⟨?_,?_,?_,?_,?_⟩,?_⟩
 ·rw [a4,a3,a2,a1]; rfl
 ·rw [b4,b3,b2,b1]; rfl
 ·rw [c4,c3,c2,c1]; rfl
 ·rw [z4,z3,z2,z1,World.alloc,Array.size_push]; omega
 ·intro b hb
  rw [o4 b (by omega),o3 b (by omega),o2 b (by omega),o1 b (by omega),World.alloc]
  rw [Array.getElem?_push_lt hb,Array.getElem?_eq_getElem hb]
 ·rw [z4,z3,z2,z1,World.alloc,Array.size_push]
def zow:Ct:=⟨[],[.fm zij],fun _=>((),()),fun _=>[]⟩
theorem zvq:qa Tryz.prog 144 zow:=by
 refine ⟨enters (fn:=Tryz.f144) (by kernel_rfl) rfl rfl,fun w F xs vs hb hr _=>?_⟩
 have hv:vs=[]:=hr
 subst hv
 refine (zrb w).mono ?_
 rintro e w' ⟨rfl,⟨arr,ck,hr,he⟩,hbel,hsz⟩
 refine ⟨_,fun b=>F b ∨ b=w.heap.size,rfl,hbel,fun b h=>.inl h,fun b h=>⟨h.elim .inl (fun h=>.inr (by omega)),h.elim (fun h=>by have:=hb b h; omega) (fun h=>by omega)⟩,?_⟩
 refine ⟨rfl,⟨fun h=>(by cases h),fun ⟨cs,h⟩=>(by cases h)⟩,w.heap.size,arr,ck,rfl,.inr rfl,hr,he⟩
end Go.Proofs.YtgieagiaagoogaaGreat
namespace Go.Proofs.YtgieagiaagoogaaGreat
open Go Go.Ab Go.RowKit Go.Proofs
noncomputable def yql:Cx:=cx [(144,zow),(145,qxu),(179,yan),(180,yao),(181,yap),(182,yaq)] []
theorem ygc:CxOK Tryz.prog yql:=zb qv ⟨zvq,zv6,yl1,yl2,yl3,yl4,trivial⟩ trivial
def chG (c:qc.den):Bool:=bif bif (zij.find? (fun x=>x.1==c.2.2.1)).isSome then (qxu.f (c.1,())).1 else false then (qxu.f (c.2.1,())).1 else false
def zj3 (x:qm [.d qc]):Fr (qi [.bool]):=
 Fr.need (chG x.1=true->x.1.2.2.1=1->True)
  (Fr.need (chG x.1=true->x.1.2.2.1 ≠ 1->(x.1.2.2.1=2->True)/\(x.1.2.2.1 ≠ 2->(x.1.2.2.1=3->True)/\(x.1.2.2.1 ≠ 3->x.1.2.2.1=4)))
   (Fr.val (bif chG x.1 then (bif x.1.2.2.1==1 then yan.f (x.1,()) else bif x.1.2.2.1==2 then yao.f (x.1,()) else bif x.1.2.2.1==3 then yap.f (x.1,()) else yaq.f (x.1,())).1 else false,())))
theorem yaw (k:Int):(zij.find? (fun x=>x.1==k)).isSome=decide (k=1 ∨ k=2 ∨ k=3 ∨ k=4):=by
 rw [Bool.eq_iff_iff]
 simp only [List.find?_isSome,zij,List.mem_cons,List.not_mem_nil,or_false,beq_iff_eq,decide_eq_true_eq]
 constructor
 ·rintro ⟨x,rfl | rfl | rfl | rfl,h⟩
  ·exact .inl h.symm
  ·exact .inr (.inl h.symm)
  ·exact .inr (.inr (.inl h.symm))
  ·exact .inr (.inr (.inr h.symm))
 ·rintro (h | h | h | h)
  ·exact ⟨(1,179),.inl rfl,h.symm⟩
  ·exact ⟨(2,180),.inr (.inl rfl),h.symm⟩
  ·exact ⟨(3,181),.inr (.inr (.inl rfl)),h.symm⟩
  ·exact ⟨(4,182),.inr (.inr (.inr rfl)),h.symm⟩
theorem ylz (c:qc.den):(zj3 (c,())).ok/\(zj3 (c,())).get=(xu c,()):=by
 have hk:=yaw c.2.2.1
 have hg:chG c=true->c.2.2.1=1 ∨ c.2.2.1=2 ∨ c.2.2.1=3 ∨ c.2.2.1=4:=by
  intro h
  unfold chG at h
  rw [hk] at h
  by_cases hd:c.2.2.1=1 ∨ c.2.2.1=2 ∨ c.2.2.1=3 ∨ c.2.2.1=4
  ·exact hd
  ·rw [decide_eq_false hd] at h
   cases h
 refine ⟨⟨fun _ _=>trivial,fun h hn=>⟨fun _=>trivial,fun h2=>⟨fun _=>trivial,fun h3=>?_⟩⟩,trivial⟩,?_⟩
 ·rcases hg h with h1 | h1 | h1 | h1
  ·exact absurd h1 hn
  ·exact absurd h1 h2
  ·exact absurd h1 h3
  ·exact h1
 ·show (bif chG c then (bif c.2.2.1==1 then (ck1 c,()) else bif c.2.2.1==2 then (ck2 c,()) else bif c.2.2.1==3 then (ck3 c,()) else (ck4 c,())).1 else false,())=(xu c,())
  unfold chG xu zag
  rw [hk]
  show ((bif bif bif _ then qc1 c.1 else false then qc1 c.2.1 else false then _ else false),())=_
  by_cases h1:c.2.2.1=1
  ·simp only [h1,true_or,decide_true,cond_true,beq_self_eq_true,if_true]
   cases qc1 c.1<;>cases qc1 c.2.1<;>rfl
  ·by_cases h2:c.2.2.1=2
   ·simp [h2]
    cases qc1 c.1<;>cases qc1 c.2.1<;>rfl
   ·by_cases h3:c.2.2.1=3
    ·simp [h3]
     cases qc1 c.1<;>cases qc1 c.2.1<;>rfl
    ·by_cases h4:c.2.2.1=4
     ·simp [h4]
      cases qc1 c.1<;>cases qc1 c.2.1<;>rfl
     ·simp [h1,h2,h3,h4]
theorem qrv:qa Tryz.prog 99 qea:=
 conv (qg ygc (Λ:=qp) (fn:=Tryz.f99) (fr:=zj3) (ps:=[.d qc]) (rs:=[.bool]) ((qc.dflt,())) (by kernel_rfl) (fun c E _=>qd c 0) (fun x=>by kernel_rfl)) _ _
  (fun _ _ x _ _ _=>by
   obtain ⟨c,_⟩:=x
   obtain ⟨h1,h2⟩:=ylz c
   exact ⟨h1,h2⟩)
noncomputable def CHR:Cx:=cx [(99,qea),(98,qhe),(43,cIn)] []
theorem zhe:CxOK Tryz.prog CHR:=zb qv ⟨qrv,qvp,qnu,trivial⟩ trivial
abbrev zv:Pt:=⟨34,0,⟨[(8,.d i64),(7,.d i64),(6,.d (.sl qc))],[.x 1 54 ql,.r 1 1 0]⟩,⟨[],[.x 1 54 ql,.r 1 1 0]⟩,⟨[(2,.d .bool)],[]⟩⟩
def qo1 (x:zv.M.X):Fr zv.Out:=
 Fr.br (decide (x.1.1 < x.1.2.1)) (Fr.need (0<=x.1.1/\x.1.1 < ((List.length x.1.2.2.1):Int)) (Fr.br (bif !(qea.f ((List.getD x.1.2.2.1 (Int.toNat x.1.1) qc.dflt),())).1 then true else !(cIn.f (x.2.1.2.2.1.1,(List.getD x.1.2.2.1 (Int.toNat x.1.1) qc.dflt).2.1,())).1) (Fr.val (Rd.back ((false,()),()))) (Fr.val (Rd.next ((IntKind.i64.wrap (x.1.1+1),x.1.2.1,x.1.2.2.1,()),x.2.1,()))))) (Fr.val (Rd.out ((),x.2.1,())))
theorem qyw:qe Tryz.prog (qo Tryz.f75 0) zv.M zv qo1:=
 qe.of_run zhe (bs:=0) (Λ:=qp) rfl rfl rfl (fun E=>qd _ 0) (fun x=>by kernel_rfl)
abbrev qan:Type:=qm [] × jc [.x 1 54 ql,.r 1 1 0]
def vl (e:qc.den) (s:qan):Fr (qan ⊕ zv.R.X):=
 Fr.br (bif !(qea.f (e,())).1 then true else !(cIn.f (s.2.1.2.2.1.1,e.2.1,())).1) (Fr.val (.inr ((false,()),()))) (Fr.val (.inl ((),s.2.1,())))
def jo (x:zv.M.X):Int × List qc.den × qan:=(x.1.1,x.1.2.2.1,x.1.2.2.2,x.2)
def qd2 (x:zv.M.X):Prop:=x.1.2.1=(x.1.2.2.1.length:Int)
def xp (s:qan):zv.E.X:=((),s.2.1,())
def qaf:qan:=(dfP _,dfM _)
def qdn:zv.R.X:=(dfP _,dfM _)
theorem qw1:qe Tryz.prog (.loop (qo Tryz.f75 0)) zv.M zv (FL vl jo qd2 xp Rd.back qaf qdn):=by
 refine qe.list qyw vl jo qd2 xp Rd.back qaf qdn ?_ ?_
 ·rintro ⟨⟨i,n,l,s⟩,m⟩ hg h0 h1 hb e he Q h
  have hg:n=(l.length:Int):=hg
  subst hg
  have h0:0<=i:=h0
  have h1:i < (l.length:Int):=h1
  have hb:(l.length:Int)<=9223372036854775807:=hb
  have hd:l.getD i.toNat qc.dflt=e:=zr he
  have hw:=zx h0 h1 hb
  dsimp only [jo,vl,qo1,Fr.satP] at h ⊢
  simp only [hd,hw] at h ⊢
  refine ⟨fun _=>?_,fun hn=>absurd h1 (of_decide_eq_false hn)⟩
  repeat' first
   |exact h
   |exact ⟨h0,h1⟩
   |exact fun _=>⟨h0,h1⟩
   |exact h _ rfl rfl
   |refine ⟨?_,?_⟩
   |(intro (hc:_=true); replace h:=h.1 hc)
   |(intro (hc:_=false); replace h:=h.2 hc)
 ·rintro ⟨⟨i,n,l,s⟩,m⟩ hg h1 Q h
  have hg:n=(l.length:Int):=hg
  subst hg
  exact ⟨fun hn=>absurd (of_decide_eq_true hn) h1,fun _=>h⟩
def zdk (Γ:Gm):St->Option Tr:=zv.han Γ zv.M (FL vl jo qd2 xp Rd.back qaf qdn)
def ku (y:zv.M.X):qan ⊕ zv.R.X:=goL vl ((jo y).2.1.drop (jo y).1.toNat) (jo y).2.2
def qyn (y:zv.M.X):Prop:=okL vl ((jo y).2.1.drop (jo y).1.toNat) (jo y).2.2
def qox (x:qm [.d ql]):Fr (qi [.bool]):=
 Fr.need (InL (qd2 ((0,((List.length x.1.2.2.2.1):Int),x.1.2.2.2.1,()),x.1,())) (jo ((0,((List.length x.1.2.2.2.1):Int),x.1.2.2.2.1,()),x.1,()))) (Fr.need (qyn ((0,((List.length x.1.2.2.2.1):Int),x.1.2.2.2.1,()),x.1,())) (Fr.br (isL (ku ((0,((List.length x.1.2.2.2.1):Int),x.1.2.2.2.1,()),x.1,()))) (Fr.val (bif (qhe.f ((xp (qak qaf (ku ((0,((List.length x.1.2.2.2.1):Int),x.1.2.2.2.1,()),x.1,())))).2.1.2.2.1,())).1 then decide (((List.length (xp (qak qaf (ku ((0,((List.length x.1.2.2.2.1):Int),x.1.2.2.2.1,()),x.1,())))).2.1.2.2.2.1):Int)<=2000) else false,())) (Fr.val ((jg qdn (ku ((0,((List.length x.1.2.2.2.1):Int),x.1.2.2.2.1,()),x.1,()))).1.1,()))))
theorem quh:qa Tryz.prog 75 ⟨[.d ql],[.bool],fun xs=>(qox xs).get,fun xs=>[(qox xs).ok]⟩:=
 qg zhe (Λ:=(fun _=>zdk CHR.Γ)) (fn:=Tryz.f75) (dfP [.d ql]) (by kernel_rfl) (fun c E hc=>yz hc (by kernel_rfl) (b:=qo Tryz.f75 0) (by kernel_rfl) (qe.han zhe rfl qw1)) (fun x=>by kernel_rfl)
theorem yjz (e:qc.den) (s:qan):(vl e s).get=if (xu e&&inB s.2.1.2.2.1.1.1 s.2.1.2.2.1.1.2.1 e.2.1)=true then .inl s else .inr ((false,()),()):=by
 show (if (bif !(xu e) then true else !(inB s.2.1.2.2.1.1.1 s.2.1.2.2.1.1.2.1 e.2.1))=true then _ else _)=_
 cases xu e<;>cases inB s.2.1.2.2.1.1.1 s.2.1.2.2.1.1.2.1 e.2.1<;>rfl
theorem yhl {T σ:Type} (l:List T) (s:σ):ql5 (fun (_:T) (s:σ)=>s) l s=s:=by
 induction l with
 |nil=>rfl
 |cons e r ih=>exact ih
theorem zyn:qa Tryz.prog 75 zq1:=
 conv quh _ _ (fun w F x vs hr _=>by
  obtain ⟨h,_⟩:=x
  obtain ⟨v,vs',rfl,hv,_⟩:=hr
  have hwf:=qs.wf hv.2.2
  have hlen:(h.2.2.2.1.length:Int)<=9223372036854775807:=qm8 hwf.2.2.2.1.1
  refine ⟨⟨⟨rfl,Int.le_refl _,Int.natCast_nonneg _,hlen⟩,qe9 (step:=vl) (fun e s=>⟨fun _=>trivial,fun _=>trivial⟩) _ _,fun _=>trivial,fun _=>trivial⟩,?_⟩
  have hres:=qco (f:=fun _ s=>s) yjz h.2.2.2.1 ((),(h,()))
  rw [zqs,yhl] at hres
  have hres':ku ((0,(h.2.2.2.1.length:Int),h.2.2.2.1,()),(h,()))=if (h.2.2.2.1.all fun c=>xu c&&inB h.2.2.1.1.1 h.2.2.1.1.2.1 c.2.1)=true then .inl ((),(h,())) else .inr ((false,()),()):=hres
  show (if isL (ku ((0,(h.2.2.2.1.length:Int),h.2.2.2.1,()),(h,())))=true then
   ((bif qeo (xp (qak qaf (ku ((0,(h.2.2.2.1.length:Int),h.2.2.2.1,()),(h,()))))).2.1.2.2.1 then decide (((xp (qak qaf (ku ((0,(h.2.2.2.1.length:Int),h.2.2.2.1,()),(h,()))))).2.1.2.2.2.1.length:Int)<=2000) else false,()):Bool × Unit)
   else ((jg qdn (ku ((0,(h.2.2.2.1.length:Int),h.2.2.2.1,()),(h,())))).1.1,()))=(qsf h,())
  rw [hres']
  unfold qsf
  cases ha:(h.2.2.2.1.all fun c=>xu c&&inB h.2.2.1.1.1 h.2.2.1.1.2.1 c.2.1) with
  |false=>
   show ((false,()):Bool × Unit)=_
   rw [Bool.and_false]
  |true=>
   show ((bif qeo h.2.2.1 then decide ((h.2.2.2.1.length:Int)<=2000) else false,()):Bool × Unit)=_
   rw [Bool.and_true]
   have:decide ((h.2.2.2.1.length:Int)<=2000)=decide (h.2.2.2.1.length<=2000):=by
    rw [Bool.eq_iff_iff]
    simp only [decide_eq_true_eq]
    omega
   rw [this]
   cases qeo h.2.2.1<;>rfl)
abbrev zgd:List (FuncId × Ct):=[(189,qrq),(190,zgi)]
theorem qxr:qmc Tryz.prog zgd:=⟨zxn,yhg,trivial⟩
noncomputable def CW1:Cx:=cx zgd []
noncomputable def CW2:Cx:=cxK zgd [] (qp6 Tryz.prog CW1 XiN)
noncomputable def CW3:Cx:=cxK zgd [] (qp6 Tryz.prog CW2 XiO)
theorem yk7:CxOK Tryz.prog CW1:=zb qv qxr trivial
theorem yk8:CxOK Tryz.prog CW2:=qcz qv qxr trivial (qil yk7 zu9)
theorem yk9:CxOK Tryz.prog CW3:=qcz qv qxr trivial (qil yk8 zva)
def zi3 (h l c:Int):Fr (qi [i64,i64]):=
 Fr.br (decide (h ≥ c)) (Fr.val (0,5,())) (Fr.need ((h=0/\0 < c) ∨ (c=10000/\h < 10000)) (evT (zgi.f (h,l,c,())).1 (zgi.f (h,l,c,())).2.1 c))
def qwe (x:qm [.d i64,.d i64,.d i64]):Fr (qi [i64,i64]):=
 Fr.br (bif bif decide (x.1 < 0) then true else decide (x.2.1 < 0) then true else decide (x.2.2.1 < 0)) (Fr.val (0,1,()))
  (Fr.br (x.2.2.1==0) (Fr.val (0,6,()))
   (zi3 (qrq.f (IntKind.u64.wrap x.1,IntKind.u64.wrap x.2.1,())).1 (qrq.f (IntKind.u64.wrap x.1,IntKind.u64.wrap x.2.1,())).2.1 (IntKind.u64.wrap x.2.2.1)))
theorem yhm {p c:Int} (hp:0<=p) (hc:0 < c) (hc2:c<=9223372036854775807) (h:p < 18446744073709551616 ∨ c=10000) :
  (zi3 (p / 18446744073709551616) (p % 18446744073709551616) c).ok/\(zi3 (p / 18446744073709551616) (p % 18446744073709551616) c).get=if qd1 p c > 4000000000000000000 then (0,5,()) else (qd1 p c,0,()):=by
 have hsum:p / 18446744073709551616 * 18446744073709551616+p % 18446744073709551616=p:=by omega
 have hr1:=Int.emod_nonneg p (b:=c) (by omega)
 have hr2:=Int.emod_lt_of_pos p hc
 have hq:=Int.ediv_nonneg hp (Int.le_of_lt hc)
 unfold zi3
 by_cases hge:p / 18446744073709551616 ≥ c
 ·refine Fr.br_t (decide_eq_true hge) ⟨trivial,?_⟩
  rcases h with h | h
  ·omega
  ·subst h
   have:qd1 p 10000 > 4000000000000000000:=by
    unfold qd1
    split<;>omega
   rw [if_pos this]
   rfl
 ·have hneed:(p / 18446744073709551616=0/\0 < c) ∨ (c=10000/\p / 18446744073709551616 < 10000):=by
   rcases h with h | h
   ·exact .inl ⟨by omega,hc⟩
   ·exact .inr ⟨h,by omega⟩
  refine Fr.br_f (decide_eq_false hge) (Fr.need_ hneed ?_)
  show (evT ((p / 18446744073709551616 * 18446744073709551616+p % 18446744073709551616) / c) ((p / 18446744073709551616 * 18446744073709551616+p % 18446744073709551616) % c) c).ok/\(evT ((p / 18446744073709551616 * 18446744073709551616+p % 18446744073709551616) / c) ((p / 18446744073709551616 * 18446744073709551616+p % 18446744073709551616) % c) c).get=_
  rw [hsum]
  have key:=zwj (q:=p / c) (r:=p % c) (c:=c) ⟨hr1,hr2⟩ hc2 hq
  refine ⟨key.1,?_⟩
  rw [key.2]
  rfl
theorem zm7 {a b c:Int} (ha : -9223372036854775808<=a/\a<=9223372036854775807) (hb : -9223372036854775808<=b/\b<=9223372036854775807) (hc : -9223372036854775808<=c/\c<=9223372036854775807)
  (hp:0<=a->0<=b->a * b < 18446744073709551616 ∨ c=10000):(qwe (a,b,c,())).ok/\(qwe (a,b,c,())).get=((jx a b c).1,(jx a b c).2,()):=by
 unfold qwe
 simp only [ylp]
 by_cases hn:a < 0 ∨ b < 0 ∨ c < 0
 ·have hd:(decide (a < 0) || (decide (b < 0) || decide (c < 0)))=true:=by simpa using hn
  refine Fr.br_t hd ⟨trivial,?_⟩
  unfold jx
  rw [if_pos hn]
  rfl
 ·have hd:(decide (a < 0) || (decide (b < 0) || decide (c < 0)))=false:=by simpa using hn
  have ha0:0<=a:=by omega
  have hb0:0<=b:=by omega
  have hc0:0<=c:=by omega
  have hab0:0<=a * b:=Int.mul_nonneg ha0 hb0
  refine Fr.br_f hd ?_
  rw [show IntKind.u64.wrap a=a from qdh (by omega),show IntKind.u64.wrap b=b from qdh (by omega),show IntKind.u64.wrap c=c from qdh (by omega)]
  unfold jx
  rw [if_neg hn]
  by_cases hz:c=0
  ·refine Fr.br_t (by simpa using hz) ⟨trivial,?_⟩
   rw [if_pos hz]
   rfl
  ·refine Fr.br_f (by simpa using hz) ?_
   rw [if_neg hz]
   have key:=yhm (p:=a * b) (c:=c) hab0 (by omega) hc.2 (hp ha0 hb0)
   refine ⟨key.1,?_⟩
   show (zi3 (a * b / 18446744073709551616) (a * b % 18446744073709551616) c).get=_
   rw [key.2]
   split<;>rfl
def zh6:Ct:=⟨[.d i64,.d i64,.d i64],[i64,i64],fun x=>((jx x.1 x.2.1 x.2.2.1).1,(jx x.1 x.2.1 x.2.2.1).2,()),fun x=>[0<=x.1->0<=x.2.1->x.1 * x.2.1 < 18446744073709551616 ∨ x.2.2.1=10000]⟩
theorem ybi:qa Tryz.prog 111 zh6:=
 flat (ps:=[.d i64,.d i64,.d i64]) (rs:=[i64,i64]) yk9 (fn:=Tryz.f111) (fr:=qwe) (0,0,0,()) (by kernel_rfl) (fun x=>by kernel_rfl) _ _
  (fun w F x vs hr hok=>by
   obtain ⟨a,b,c,u⟩:=x
   obtain ⟨v1,vs1,rfl,h1,v2,vs2,rfl,h2,v3,vs3,rfl,h3,_⟩:=hr
   exact zm7 (qq6 h1) (qq6 h2) (qq6 h3) hok)
def bpF (m b:Int):Int × Int:=jx m b 10000
def cBp:Ct:=⟨[.d i64,.d i64],[i64,i64],fun x=>((bpF x.1 x.2.1).1,(bpF x.1 x.2.1).2,()),fun _=>[]⟩
noncomputable def CW4:Cx:=cx [(111,zh6)] []
theorem yla:CxOK Tryz.prog CW4:=zb qv ⟨ybi,trivial⟩ trivial
theorem yfh:qa Tryz.prog 74 cBp:=
 flat (ps:=[.d i64,.d i64]) (rs:=[i64,i64]) yla (fn:=Tryz.f74) (fr:=fun x=>Fr.need (0<=x.1->0<=x.2.1->x.1 * x.2.1 < 18446744073709551616 ∨ (10000:Int)=10000) (Fr.val (zh6.f (x.1,x.2.1,10000,())))) (0,0,()) (by kernel_rfl) (fun x=>by kernel_rfl) _ _
  (fun w F x vs hr hok=>⟨⟨fun _ _=>.inr rfl,trivial⟩,rfl⟩)
abbrev zsa:Ty:=.pair i64 (.pair i64 (.pair i64 (.pair i64 (.pair i64 .unit))))
def f5 (f:zsa.den):List Int:=[f.1,f.2.1,f.2.2.1,f.2.2.2.1,f.2.2.2.2.1]
def qb7:List Int->Int->Int × Int
 |[],m=>(m,0)
 |b :: r,m=>if (bpF m b).2=0 then qb7 r (bpF m b).1 else bpF m b
noncomputable def CQ:Cx:=cx [(159,zq7),(141,qht),(160,qfy),(161,yfi),(74,cBp)] []
theorem zqf:CxOK Tryz.prog CQ:=zb qv ⟨yj6,zc8,ziq,yg5,yfh,trivial⟩ trivial
def MQ:LS:=⟨[(8,.d i64),(9,.d i64),(59,.d zsa),(60,.d i64)],[.x 3 132 qt,.r 3 3 0]⟩
def EQ:LS:=⟨[(8,.d i64),(9,.d i64)],[.x 3 132 qt,.r 3 3 0]⟩
def ptQ:Pt:=⟨79,1,MQ,EQ,⟨[],[]⟩⟩
def fQ (x:MQ.X):Fr ptQ.Out:=
 Fr.br (decide (x.1.2.2.2.1 < 5))
  (Fr.need (0<=x.1.2.2.2.1/\x.1.2.2.2.1 < ((5:Nat):Int))
   (Fr.br ((cBp.f (x.1.1,(f5 x.1.2.2.1).getD x.1.2.2.2.1.toNat 0,())).2.1 != 0)
    (Fr.val (Rd.out (((cBp.f (x.1.1,(f5 x.1.2.2.1).getD x.1.2.2.2.1.toNat 0,())).1,(cBp.f (x.1.1,(f5 x.1.2.2.1).getD x.1.2.2.2.1.toNat 0,())).2.1,()),x.2)))
    (Fr.val (Rd.next (((cBp.f (x.1.1,(f5 x.1.2.2.1).getD x.1.2.2.2.1.toNat 0,())).1,(cBp.f (x.1.1,(f5 x.1.2.2.1).getD x.1.2.2.2.1.toNat 0,())).2.1,x.1.2.2.1,IntKind.i64.wrap (x.1.2.2.2.1+1),()),x.2)))))
  (Fr.val (Rd.out ((x.1.1,x.1.2.1,()),x.2)))
theorem yru:qe Tryz.prog (qo Tryz.f118 0) MQ ptQ fQ:=qe.of_run zqf (bs:=0) rfl rfl rfl (fun _=>qd _ 0) (fun x=>by kernel_rfl)
def InQ (i e:Int):Prop:=0<=i/\i<=5/\e=0
def FQ (x:MQ.X):Fr ptQ.Out:=Fr.need (InQ x.1.2.2.2.1 x.1.2.1) (Fr.val (.out (((qb7 ((f5 x.1.2.2.1).drop x.1.2.2.2.1.toNat) x.1.1).1,(qb7 ((f5 x.1.2.2.1).drop x.1.2.2.2.1.toNat) x.1.1).2,()),x.2)))
theorem yrm (m e i:Int) (f:zsa.den) (y:jc [.x 3 132 qt,.r 3 3 0]) (hinv:InQ i e) (Q:ptQ.Out->Prop) (hq:Q (.out (((qb7 ((f5 f).drop i.toNat) m).1,(qb7 ((f5 f).drop i.toNat) m).2,()),y))) :
  (fQ ((m,e,f,i,()),y)).satP fun
   |.next x'=>InQ x'.1.2.2.2.1 x'.1.2.1/\(5 - x'.1.2.2.2.1).toNat < (5 - i).toNat/\(FQ x').satP Q
   |.out y=>Q (.out y)
   |.back z=>Q (.back z)
   |.pan p=>Q (.pan p):=by
 obtain ⟨h1,h2,rfl⟩:=hinv
 refine ⟨fun hi=>?_,fun hi=>?_⟩
 ·have hi':i < 5:=of_decide_eq_true hi
  obtain ⟨k,rfl⟩:∃ k:Nat,i=k:=⟨i.toNat,by omega⟩
  have hl:k < (f5 f).length:=by show k < 5; omega
  have hw:IntKind.i64.wrap ((k:Int)+1)=k+1:=IntWalk.i64_in _ (by omega)
  have g1:(f5 f).getD (k:Int).toNat 0=(f5 f)[k]:=by
   rw [show (k:Int).toNat=k by omega,List.getD_eq_getElem?_getD,List.getElem?_eq_getElem hl]; rfl
  have hd:(f5 f).drop (k:Int).toNat=(f5 f)[k] :: (f5 f).drop (k+1):=by
   rw [show (k:Int).toNat=k by omega]
   exact List.drop_eq_getElem_cons hl
  rw [hd] at hq
  dsimp only [fQ,Fr.satP]
  rw [g1,hw]
  show (0<=(k:Int)/\(k:Int) < ((5:Nat):Int))/\(((bpF m (f5 f)[k]).2 != 0)=true->Q (.out (((bpF m (f5 f)[k]).1,(bpF m (f5 f)[k]).2,()),y)))/\(((bpF m (f5 f)[k]).2 != 0)=false->InQ (k+1) (bpF m (f5 f)[k]).2/\(5 - ((k:Int)+1)).toNat < (5 - (k:Int)).toNat/\(FQ (((bpF m (f5 f)[k]).1,(bpF m (f5 f)[k]).2,f,(k:Int)+1,()),y)).satP Q)
  refine ⟨⟨by omega,by omega⟩,fun hb=>?_,fun hb=>?_⟩
  ·have hb':¬ (bpF m (f5 f)[k]).2=0:=by simpa using hb
   have e:qb7 ((f5 f)[k] :: (f5 f).drop (k+1)) m=bpF m (f5 f)[k]:=if_neg hb'
   rw [e] at hq
   exact hq
  ·have hb':(bpF m (f5 f)[k]).2=0:=by simpa using hb
   have e:qb7 ((f5 f)[k] :: (f5 f).drop (k+1)) m=qb7 ((f5 f).drop (k+1)) (bpF m (f5 f)[k]).1:=if_pos hb'
   rw [e] at hq
   have hI:InQ ((k:Int)+1) (bpF m (f5 f)[k]).2:=⟨by omega,by omega,hb'⟩
   refine ⟨hI,by omega,hI,?_⟩
   have:((k:Int)+1).toNat=k+1:=by omega
   show Q (.out (((qb7 ((f5 f).drop ((k:Int)+1).toNat) (bpF m (f5 f)[k]).1).1,(qb7 ((f5 f).drop ((k:Int)+1).toNat) (bpF m (f5 f)[k]).1).2,()),y))
   rw [this]
   exact hq
 ·have hi':¬ i < 5:=of_decide_eq_false hi
  have:i=5:=by omega
  subst this
  exact hq
theorem yp2:qe Tryz.prog (.loop (qo Tryz.f118 0)) MQ ptQ FQ:=by
 refine qe.loop (n:=79) (id:=1) yru (inv:=fun x=>InQ x.1.2.2.2.1 x.1.2.1) (μ:=fun x=>(5 - x.1.2.2.2.1).toNat) ?_ (fun x Q h=>h.1)
 rintro ⟨⟨m,e,f,i,_⟩,y⟩ hinv Q hq
 exact yrm m e i f y hinv Q hq.2
def qkg (v:qt.den) (r:jj.den) (c:qb.den):List Int:=
 [([v.2.1.1,v.2.1.2.1,v.2.1.2.2.1,v.2.1.2.2.2.1]:List Int).getD r.1.toNat 0,qks r.2.2.1 v.2.2.1 10000,v.2.2.2.1.getD r.2.2.2.1.toNat 0,v.2.2.2.2.1.getD c.1.toNat 0,c.2.2.2.2.1]
def qbc (v:qt.den) (r:jj.den) (c:qb.den):Int × Int:=
 if (qqe v&&(qhz r.1 r.2.1 r.2.2.1 r.2.2.2.1&&qhf c.1 c.2.1 c.2.2.1 c.2.2.2.1 c.2.2.2.2.1))=true then
  if r.2.2.2.1 ≥ v.2.2.2.1.length then (0,7) else
   if (qb7 (qkg v r c) r.2.1).2=0 then (if (qb7 (qkg v r c) r.2.1).1 < v.2.2.2.2.2.1 then v.2.2.2.2.2.1 else (qb7 (qkg v r c) r.2.1).1,0) else (0,(qb7 (qkg v r c) r.2.1).2)
 else (0,1)
def qtz:Ct:=⟨[.d qt,.d jj,.d qb],[i64,i64],fun x=>((qbc x.1 x.2.1 x.2.2.1).1,(qbc x.1 x.2.1 x.2.2.1).2,()),fun _=>[]⟩
def qwg (x:qm [.d qt,.d jj,.d qb]):Fr (qi [i64,i64]):=
 Fr.br (bif bif !(zq7.f (x.1,())).1 then true else !(qht.f (x.2.1,())).1 then true else !(qfy.f (x.2.2.1,())).1) (Fr.val (0,1,()))
  (Fr.br (decide (x.2.1.2.2.2.1 ≥ x.1.2.2.2.1.length)) (Fr.val (0,7,()))
   (Fr.need (0<=x.2.1.1/\x.2.1.1 < ((4:Nat):Int))
    (Fr.need (0<=x.2.1.2.2.2.1/\x.2.1.2.2.2.1 < x.1.2.2.2.1.length)
     (Fr.need (0<=x.2.2.1.1/\x.2.2.1.1 < x.1.2.2.2.2.1.length)
      (Fr.need (InQ 0 0)
       (Fr.br ((qb7 (qkg x.1 x.2.1 x.2.2.1) x.2.1.2.1).2 != 0) (Fr.val (0,(qb7 (qkg x.1 x.2.1 x.2.2.1) x.2.1.2.1).2,()))
        (Fr.val (if (qb7 (qkg x.1 x.2.1 x.2.2.1) x.2.1.2.1).1 < x.1.2.2.2.2.2.1 then x.1.2.2.2.2.2.1 else (qb7 (qkg x.1 x.2.1 x.2.2.1) x.2.1.2.1).1,0,()))))))))
theorem yi7:qa Tryz.prog 118 ⟨[.d qt,.d jj,.d qb],[i64,i64],fun xs=>(qwg xs).get,fun xs=>[(qwg xs).ok]⟩:=
 qg zqf (Λ:=fun _=>ptQ.han CQ.Γ MQ FQ) (fn:=Tryz.f118) (fr:=qwg) (ps:=[.d qt,.d jj,.d qb]) (rs:=[i64,i64]) (qt.dflt,jj.dflt,qb.dflt,()) (by kernel_rfl)
  (fun c E hc=>yz hc (by kernel_rfl) (b:=qo Tryz.f118 0) (by kernel_rfl) (qe.han zqf rfl yp2)) (fun x=>by kernel_rfl)
theorem yrp (a b c:Bool):(bif bif !a then true else !b then true else !c) = !(a&&(b&&c)):=by cases a<;>cases b<;>cases c<;>rfl
theorem zux {v:qt.den} (h:qqe v=true):v.2.2.2.2.1.length=8:=by
 unfold qqe at h
 rw [Bool.and_eq_true] at h
 have h1:=of_decide_eq_true h.1
 exact h1.2.2.2.2.2.2.2
theorem zt7 {k v a z:Int} (h:qhz k v a z=true):0<=k/\k < 4/\0<=z:=by
 have h1:=of_decide_eq_true h
 exact ⟨h1.1,h1.2.1,h1.2.2.2.2.2.2.1⟩
theorem zio {p l g d s:Int} (h:qhf p l g d s=true):0<=p/\p < 8:=by
 have h1:=of_decide_eq_true h
 exact ⟨h1.1,h1.2.1⟩
theorem ynw (v:qt.den) (k val a z:Int) (c:qb.den):(qwg (v,(k,val,a,z,()),c,())).ok/\(qwg (v,(k,val,a,z,()),c,())).get=((qbc v (k,val,a,z,()) c).1,(qbc v (k,val,a,z,()) c).2,()):=by
 obtain ⟨p,l,g,d,s,_⟩:=c
 unfold qwg qbc
 have e0:(bif bif !(zq7.f (v,())).1 then true else !(qht.f ((k,val,a,z,()),())).1 then true else !(qfy.f ((p,l,g,d,s,()),())).1) = !(qqe v&&(qhz k val a z&&qhf p l g d s)):=yrp _ _ _
 by_cases h:(qqe v&&(qhz k val a z&&qhf p l g d s))=true
 ·rw [if_pos h]
  refine Fr.br_f (by rw [e0,h]; rfl) ?_
  rw [Bool.and_eq_true,Bool.and_eq_true] at h
  obtain ⟨h1,h2,h3⟩:=h
  obtain ⟨r1,r2,r3⟩:=zt7 h2
  obtain ⟨c1,c2⟩:=zio h3
  have hp:=zux h1
  by_cases hz:z ≥ (v.2.2.2.1.length:Int)
  ·rw [if_pos hz]
   exact Fr.br_t (decide_eq_true hz) ⟨trivial,rfl⟩
  ·rw [if_neg hz]
   have hz':z < (v.2.2.2.1.length:Int):=Int.not_le.1 hz
   refine Fr.br_f (decide_eq_false hz) (Fr.need_ ⟨r1,by omega⟩ (Fr.need_ ⟨r3,hz'⟩ (Fr.need_ ⟨c1,?_⟩ (Fr.need_ ⟨by omega,by omega,rfl⟩ ?_))))
   ·show p < (v.2.2.2.2.1.length:Int)
    rw [hp]
    exact c2
   ·by_cases hb:(qb7 (qkg v (k,val,a,z,()) (p,l,g,d,s,())) val).2=0
    ·have hb':((qb7 (qkg v (k,val,a,z,()) (p,l,g,d,s,())) val).2 != 0)=false:=by rw [hb]; rfl
     rw [if_pos hb]
     exact Fr.br_f hb' ⟨trivial,rfl⟩
    ·have hb':((qb7 (qkg v (k,val,a,z,()) (p,l,g,d,s,())) val).2 != 0)=true:=bne_iff_ne.2 hb
     rw [if_neg hb]
     exact Fr.br_t hb' ⟨trivial,rfl⟩
 ·rw [if_neg h]
  simp only [Bool.not_eq_true] at h
  exact Fr.br_t (by rw [e0,h]; rfl) ⟨trivial,rfl⟩
theorem ynx:qa Tryz.prog 118 qtz:=
 vt yi7 _ _ (fun _ _ x _ _ _=>by
  obtain ⟨v,⟨k,val,a,z,_⟩,c,_⟩:=x
  exact ynw v k val a z c)
noncomputable def CY1:Cx:=cx [] []
theorem ylb:CxOK Tryz.prog CY1:=zb (cs:=[]) (ps:=[]) qv trivial trivial
noncomputable def XiY:FuncId->Option (Func × (Nat->St->Option Tr)):=qai [(117,(Tryz.f117,qp)),(158,(Tryz.f158,qp))]
theorem ylh:∀ f fn Λ,XiY f=some (fn,Λ)->Tryz.prog.funcs[f]? = some fn/\∀ c E',fn.body=some c->jt Tryz.prog E' Λ c 0:=fun f fn Λ h=>by
 simp only [XiY,qai] at h
 split at h
 ·rename_i hf
  subst hf
  cases h
  exact ⟨by kernel_rfl,fun c E' _=>qd c 0⟩
 ·split at h
  ·rename_i hf
   subst hf
   cases h
   exact ⟨by kernel_rfl,fun c E' _=>qd c 0⟩
  ·cases h
noncomputable def CY:Cx:=cxK [(118,qtz)] [] (qp6 Tryz.prog CY1 XiY)
theorem zqj:CxOK Tryz.prog CY:=qcz qv ⟨ynx,trivial⟩ trivial (qil ylb ylh)
def MY:LS:=⟨[(16,.d (.sl qb)),(17,.d i64),(18,.d i64),(9,.d i64),(10,.d .bool)],[.x 3 132 qt,.r 3 3 0,.x 4 33 jj,.r 4 4 0,.x 160001 3 i64,.g 8 158 [160001]]⟩
def EY:LS:=⟨[(9,.d i64),(10,.d .bool)],[]⟩
def ptY:Pt:=⟨43,0,MY,EY,⟨[(6,.d i64),(7,.d i64)],[]⟩⟩
def fY1 (v:qt.den) (r:jj.den) (l:List qb.den) (n i s:Int) (b:Bool) (q:Int) (c:qb.den):Fr ptY.Out:=
 Fr.br ((qtz.f (v,r,c,())).2.1 != 0) (Fr.val (Rd.back ((0,(qtz.f (v,r,c,())).2.1,()),())))
  (Fr.br b
   (Fr.br (decide ((qtz.f (v,r,c,())).1 > IntKind.i64.wrap (4000000000000000000 - q)))
    (Fr.val (Rd.next ((l,n,IntKind.i64.wrap (i+1),0,false,()),(v,r,q,()))))
    (Fr.val (Rd.next ((l,n,IntKind.i64.wrap (i+1),IntKind.i64.wrap (q+(qtz.f (v,r,c,())).1),true,()),(v,r,IntKind.i64.wrap (q+(qtz.f (v,r,c,())).1),())))))
   (Fr.val (Rd.next ((l,n,IntKind.i64.wrap (i+1),s,b,()),(v,r,q,())))))
def fY (x:MY.X):Fr ptY.Out:=
 Fr.br (decide (x.1.2.2.1 < x.1.2.1))
  (Fr.need (0<=x.1.2.2.1/\x.1.2.2.1 < x.1.1.length) (fY1 x.2.1 x.2.2.1 x.1.1 x.1.2.1 x.1.2.2.1 x.1.2.2.2.1 x.1.2.2.2.2.1 x.2.2.2.1 (x.1.1.getD x.1.2.2.1.toNat qb.dflt)))
  (Fr.val (Rd.out ((x.1.2.2.2.1,x.1.2.2.2.2.1,()),())))
theorem yrw:qe Tryz.prog (qo Tryz.f78 0) MY ptY fY:=qe.of_run zqj (bs:=0) rfl rfl rfl (fun _=>qd _ 0) (fun x=>by kernel_rfl)
def xm (v:qt.den) (r:jj.den):List qb.den->Int->Bool->Int × Bool × Int
 |[],q,b=>(if b=true then q else 0,b,0)
 |c :: l,q,b=>if (qbc v r c).2=0 then
   (if b=true then (if (qbc v r c).1 > 4000000000000000000 - q then xm v r l q false else xm v r l (q+(qbc v r c).1) true) else xm v r l q false)
  else (0,false,(qbc v r c).2)
theorem ycy {v:qt.den} {r:jj.den} {c:qb.den} (h:(qbc v r c).2=0):0<=(qbc v r c).1:=by
 unfold qbc at h ⊢
 split
 ·rename_i h1
  rw [if_pos h1] at h
  split
  ·exact Int.le_refl 0
  ·rename_i h2
   rw [if_neg h2] at h
   split
   ·have hv:qqe v=true:=(Bool.and_eq_true_iff.1 h1).1
    have hmin:0<=v.2.2.2.2.2.1:=by
     unfold qqe at hv
     rw [Bool.and_eq_true] at hv
     exact (of_decide_eq_true hv.1).2.2.1
    show 0<=(if (qb7 (qkg v r c) r.2.1).1 < v.2.2.2.2.2.1 then v.2.2.2.2.2.1 else (qb7 (qkg v r c) r.2.1).1)
    split
    ·exact hmin
    ·rename_i h3
     exact Int.le_trans hmin (Int.not_lt.1 h3)
   ·exact Int.le_refl 0
 ·exact Int.le_refl 0
def InY (l:List qb.den) (n i s:Int) (b:Bool) (q:Int):Prop:=0<=i/\i<=n/\n=l.length/\n<=9223372036854775807/\0<=q/\q<=4000000000000000000/\s=if b=true then q else 0
def zlc (y:Int × Bool × Int):Fr ptY.Out:=Fr.br (y.2.2 != 0) (Fr.val (Rd.back ((0,y.2.2,()),()))) (Fr.val (Rd.out ((y.1,y.2.1,()),())))
def FY (x:MY.X):Fr ptY.Out:=Fr.need (InY x.1.1 x.1.2.1 x.1.2.2.1 x.1.2.2.2.1 x.1.2.2.2.2.1 x.2.2.2.1) (zlc (xm x.2.1 x.2.2.1 (x.1.1.drop x.1.2.2.1.toNat) x.2.2.2.1 x.1.2.2.2.2.1))
theorem yro (v:qt.den) (r:jj.den) (l:List qb.den) (n i s:Int) (b:Bool) (q:Int) (hinv:InY l n i s b q) (Q:ptY.Out->Prop) (hq:(zlc (xm v r (l.drop i.toNat) q b)).satP Q) :
  (fY ((l,n,i,s,b,()),(v,r,q,()))).satP fun
   |.next x'=>InY x'.1.1 x'.1.2.1 x'.1.2.2.1 x'.1.2.2.2.1 x'.1.2.2.2.2.1 x'.2.2.2.1/\(x'.1.2.1 - x'.1.2.2.1).toNat < (n - i).toNat/\(FY x').satP Q
   |.out y=>Q (.out y)
   |.back z=>Q (.back z)
   |.pan p=>Q (.pan p):=by
 obtain ⟨h1,h2,rfl,h4,h5,h6,h7⟩:=hinv
 refine ⟨fun hi=>?_,fun hi=>?_⟩
 ·have hi':i < (l.length:Int):=of_decide_eq_true hi
  obtain ⟨k,rfl⟩:∃ k:Nat,i=k:=⟨i.toNat,by omega⟩
  have hl:k < l.length:=by omega
  have g1:l.getD (k:Int).toNat qb.dflt=l[k]:=by
   rw [show (k:Int).toNat=k by omega,List.getD_eq_getElem?_getD,List.getElem?_eq_getElem hl]; rfl
  have hw:IntKind.i64.wrap ((k:Int)+1)=k+1:=IntWalk.i64_in _ (by omega)
  have hd:l.drop (k:Int).toNat=l[k] :: l.drop (k+1):=by
   rw [show (k:Int).toNat=k by omega]
   exact List.drop_eq_getElem_cons hl
  have hn1:((k:Int)+1).toNat=k+1:=by omega
  rw [hd] at hq
  refine ⟨⟨by omega,hi'⟩,?_⟩
  show (fY1 v r l l.length k s b q (l.getD (k:Int).toNat qb.dflt)).satP _
  rw [g1]
  unfold fY1
  rw [hw]
  generalize l[k]=c at *
  have hμ:((l.length:Int) - ((k:Int)+1)).toNat < ((l.length:Int) - k).toNat:=by omega
  refine ⟨fun he=>?_,fun he=>?_⟩
  ·have he':¬ (qbc v r c).2=0:=bne_iff_ne.1 he
   have e:xm v r (c :: l.drop (k+1)) q b=(0,false,(qbc v r c).2):=if_neg he'
   rw [e] at hq
   exact hq.1 he
  ·have he':(qbc v r c).2=0:=by
    have:((qbc v r c).2 != 0)=false:=he
    simpa using this
   have hpos:=ycy he'
   have e:xm v r (c :: l.drop (k+1)) q b=(if b=true then (if (qbc v r c).1 > 4000000000000000000 - q then xm v r (l.drop (k+1)) q false else xm v r (l.drop (k+1)) (q+(qbc v r c).1) true) else xm v r (l.drop (k+1)) q false):=if_pos he'
   rw [e] at hq
   have hw2:IntKind.i64.wrap (4000000000000000000 - q)=4000000000000000000 - q:=IntWalk.i64_in _ (by omega)
   refine ⟨fun hb=>?_,fun hb=>?_⟩
   ·rw [if_pos hb] at hq
    rw [hw2]
    refine ⟨fun hg=>?_,fun hg=>?_⟩
    ·have hg':(qbc v r c).1 > 4000000000000000000 - q:=of_decide_eq_true hg
     rw [if_pos hg'] at hq
     have hI:InY l l.length ((k:Int)+1) 0 false q:=⟨by omega,by omega,rfl,h4,h5,h6,rfl⟩
     refine ⟨hI,hμ,hI,?_⟩
     show (zlc (xm v r (l.drop ((k:Int)+1).toNat) q false)).satP Q
     rw [hn1]
     exact hq
    ·have hg':¬ (qbc v r c).1 > 4000000000000000000 - q:=of_decide_eq_false hg
     rw [if_neg hg'] at hq
     have hw3:IntKind.i64.wrap (q+(qtz.f (v,r,c,())).1)=q+(qbc v r c).1:=IntWalk.i64_in (q+(qbc v r c).1) (by omega)
     rw [hw3]
     have hI:InY l l.length ((k:Int)+1) (q+(qbc v r c).1) true (q+(qbc v r c).1):=⟨by omega,by omega,rfl,h4,by omega,by omega,rfl⟩
     refine ⟨hI,hμ,hI,?_⟩
     show (zlc (xm v r (l.drop ((k:Int)+1).toNat) (q+(qbc v r c).1) true)).satP Q
     rw [hn1]
     exact hq
   ·subst hb
    rw [if_neg (by decide)] at hq
    have hI:InY l l.length ((k:Int)+1) s false q:=⟨by omega,by omega,rfl,h4,h5,h6,h7⟩
    refine ⟨hI,hμ,hI,?_⟩
    show (zlc (xm v r (l.drop ((k:Int)+1).toNat) q false)).satP Q
    rw [hn1]
    exact hq
 ·have hi':¬ i < (l.length:Int):=of_decide_eq_false hi
  have e:l.drop i.toNat=[]:=List.drop_eq_nil_of_le (by omega)
  rw [e] at hq
  subst h7
  exact hq.2 rfl
theorem yp4:qe Tryz.prog (.loop (qo Tryz.f78 0)) MY ptY FY:=by
 refine qe.loop (n:=43) (id:=0) yrw (inv:=fun x=>InY x.1.1 x.1.2.1 x.1.2.2.1 x.1.2.2.2.1 x.1.2.2.2.2.1 x.2.2.2.1) (μ:=fun x=>(x.1.2.1 - x.1.2.2.1).toNat) ?_ (fun x Q h=>h.1)
 rintro ⟨⟨l,n,i,s,b,_⟩,v,r,q,_⟩ hinv Q hq
 exact yro v r l n i s b q hinv Q hq.2
def qpn (v:qt.den) (r:jj.den) (l:List qb.den):Int × Int:=
 if (xm v r l 0 true).2.2=0 then (if (xm v r l 0 true).2.1=true then ((xm v r l 0 true).1,0) else (0,5)) else (0,(xm v r l 0 true).2.2)
def qzb:Ct:=⟨[.d qt,.d jj,.d (.sl qb)],[i64,i64],fun x=>((qpn x.1 x.2.1 x.2.2.1).1,(qpn x.1 x.2.1 x.2.2.1).2,()),fun _=>[]⟩
def zjz (x:qm [.d qt,.d jj,.d (.sl qb)]):Fr (qi [i64,i64]):=
 Fr.need (InY x.2.2.1 x.2.2.1.length 0 0 true 0)
  (Fr.br ((xm x.1 x.2.1 x.2.2.1 0 true).2.2 != 0) (Fr.val (0,(xm x.1 x.2.1 x.2.2.1 0 true).2.2,()))
   (Fr.br (!(xm x.1 x.2.1 x.2.2.1 0 true).2.1) (Fr.val (0,5,())) (Fr.val ((xm x.1 x.2.1 x.2.2.1 0 true).1,0,()))))
theorem ye1:qa Tryz.prog 78 ⟨[.d qt,.d jj,.d (.sl qb)],[i64,i64],fun xs=>(zjz xs).get,fun xs=>[(zjz xs).ok]⟩:=
 qg zqj (Λ:=fun _=>ptY.han CY.Γ MY FY) (fn:=Tryz.f78) (fr:=zjz) (ps:=[.d qt,.d jj,.d (.sl qb)]) (rs:=[i64,i64]) (qt.dflt,jj.dflt,[],()) (by kernel_rfl)
  (fun c E hc=>yz hc (by kernel_rfl) (b:=qo Tryz.f78 0) (by kernel_rfl) (qe.han zqj rfl yp4)) (fun x=>by kernel_rfl)
theorem yke:qa Tryz.prog 78 qzb:=
 vt ye1 _ _ (fun w F x vs hr _=>by
  obtain ⟨v,r,l,_⟩:=x
  obtain ⟨v1,vs1,rfl,_,v2,vs2,rfl,_,v3,vs3,rfl,h3,_⟩:=hr
  have hlen:(l.length:Int)<=9223372036854775807:=qcg h3
  have hI:InY l l.length 0 0 true 0:=⟨by omega,by omega,rfl,hlen,by decide,by decide,rfl⟩
  refine Fr.need_ hI ?_
  show (Fr.br ((xm v r l 0 true).2.2 != 0) (Fr.val (0,(xm v r l 0 true).2.2,())) (Fr.br (!(xm v r l 0 true).2.1) (Fr.val (0,5,())) (Fr.val ((xm v r l 0 true).1,0,())))  : Fr (qi [i64,i64])).ok/\(Fr.br ((xm v r l 0 true).2.2 != 0) (Fr.val (0,(xm v r l 0 true).2.2,())) (Fr.br (!(xm v r l 0 true).2.1) (Fr.val (0,5,())) (Fr.val ((xm v r l 0 true).1,0,())))  : Fr (qi [i64,i64])).get=((qpn v r l).1,(qpn v r l).2,())
  unfold qpn
  generalize xm v r l 0 true=y
  obtain ⟨s,b,e⟩:=y
  by_cases he:e=0
  ·subst he
   refine Fr.br_f rfl ?_
   cases b with
   |true=>exact Fr.br_f rfl ⟨trivial,rfl⟩
   |false=>exact Fr.br_t rfl ⟨trivial,rfl⟩
  ·rw [if_neg he]
   exact Fr.br_t (bne_iff_ne.2 he) ⟨trivial,rfl⟩)
noncomputable def CC1:Cx:=cx [(115,qqn)] []
theorem ykl:CxOK Tryz.prog CC1:=zb (ps:=[]) qv ⟨zkk,trivial⟩ trivial
noncomputable def XiC:FuncId->Option (Func × (Nat->St->Option Tr)):=qai [(114,(Tryz.f114,qp)),(116,(Tryz.f116,qp))]
theorem ylf:∀ f fn Λ,XiC f=some (fn,Λ)->Tryz.prog.funcs[f]? = some fn/\∀ c E',fn.body=some c->jt Tryz.prog E' Λ c 0:=fun f fn Λ h=>by
 simp only [XiC,qai] at h
 split at h
 ·rename_i hf
  subst hf
  cases h
  exact ⟨by kernel_rfl,fun c E' _=>qd c 0⟩
 ·split at h
  ·rename_i hf
   subst hf
   cases h
   exact ⟨by kernel_rfl,fun c E' _=>qd c 0⟩
  ·cases h
noncomputable def CC2:Cx:=cxK [(105,zib)] [] (qp6 Tryz.prog CC1 XiC)
theorem zhb:CxOK Tryz.prog CC2:=qcz (ps:=[]) qv ⟨zlb,trivial⟩ trivial (qil ykl ylf)
abbrev msC:List MI:=[.x 280001 54 ql,.r 1 280001 0,.x 280003 31 zw,.r 3 280003 0,.x 280004 122 qk,.r 4 280004 0,.y 280005 110 [(some 122,qk)],.r 5 280005 0,.g 6 114 [280004,280005],.x 6 132 qt,.r 10006 6 0]
def MC:LS:=⟨[(26,.d jd),(27,.d i64),(28,.d i64)],msC⟩
def EC:LS:=⟨[],msC⟩
def zc6:Pt:=⟨52,0,MC,EC,⟨[],[]⟩⟩
def qd4 (out:List qk.den):Int:=IntKind.i64.wrap ((out.length:Int) - 1)
def qh1 (s:qk.den) (b:Int):qk.den:=((s.1.1,b,()),s.2)
def ybc {α:Type} (s:qk.den) (out:List qk.den) (day:Int) (K:List qk.den->Fr α):Fr α:=
 Fr.br (s.1.1==day) (K out)
  (Fr.need (decide (qd4 out ≥ 0)=true->0<=qd4 out/\qd4 out < (out.length:Int))
   (Fr.need (decide (qd4 out ≥ 0)=true->(qd4 out).toNat < out.length)
    (Fr.br (bif decide (qd4 out ≥ 0) then (qqn.f (out.getD (qd4 out).toNat qk.dflt,qh1 s day,())).1 else false)
     (Fr.need (0<=qd4 out/\qd4 out < (out.length:Int)) (Fr.need ((qd4 out).toNat < out.length) (K (out.set (qd4 out).toNat (qh1 (out.getD (qd4 out).toNat qk.dflt) day)))))
     (Fr.need (out.length + [qh1 s day].length<=maxLen/\(out.length + [qh1 s day].length) * 88<=140737488355328) (K (out++[qh1 s day]))))))
def yfu {α:Type} (s:qk.den) (c:qc.den) (K:qk.den->Fr α):Fr α:=
 Fr.br (c.2.2.1==1) (K (s.1,s.2.1,c.2.2.2.1,s.2.2.2.1,s.2.2.2.2.1,()))
  (Fr.br (c.2.2.1==2) (Fr.need (([]:List qb.den).length+c.2.2.2.2.1.length<=maxLen/\(([]:List qb.den).length+c.2.2.2.2.1.length) * 40<=140737488355328) (K (s.1,s.2.1,s.2.2.1,[]++c.2.2.2.2.1,s.2.2.2.2.1,())))
   (Fr.br (c.2.2.1==3) (K (s.1,false,s.2.2.1,s.2.2.2.1,s.2.2.2.2.1,()))
    (Fr.br (c.2.2.1==4) (K (s.1,true,s.2.2.1,s.2.2.2.1,s.2.2.2.2.1,())) (K s))))
def ybv (x:MC.X):Fr zc6.Out:=
 let l:List Int:=x.1.1; let n:Int:=x.1.2.1; let i:Int:=x.1.2.2.1; let h:ql.den:=x.2.1; let sp:zw.den:=x.2.2.1; let s:qk.den:=x.2.2.2.1; let out:List qk.den:=x.2.2.2.2.1.1; let v:qt.den:=x.2.2.2.2.2.1
 let j:Int:=l.getD i.toNat i64.dflt
 Fr.br (decide (i < n))
  (Fr.need (0<=i/\i < (l.length:Int))
   (Fr.need (0<=j/\j < ((chL h).length:Int))
    (ybc s out (vn h j).2.1 fun out'=>
     Fr.need (0<=j/\j < ((chL h).length:Int))
      (yfu (((vn h j).2.1,s.1.2.1,()),s.2) (vn h j) fun s'=>Fr.val (Rd.next ((l,n,IntKind.i64.wrap (i+1),()),(h,sp,s',(out',()),v,())))))))
  (Fr.val (Rd.out ((),(h,sp,s,(out,()),v,()))))
theorem yqc:qe Tryz.prog (qo Tryz.f77 0) MC zc6 ybv:=qe.of_run zhb (bs:=280000) rfl rfl rfl (fun _=>qd _ 0) (fun x=>by kernel_rfl)
theorem zll (s:qk.den):(out:List qk.den)->0 < out.length->qft out s=if qjf (out.getD (out.length - 1) qk.dflt) s=true then out.set (out.length - 1) (qh1 (out.getD (out.length - 1) qk.dflt) s.1.2.1) else out++[s]
 |[],h=>absurd h (by decide)
 |[x],_=>rfl
 |x :: y :: r,_=>by
  have ih:=zll s (y :: r) (by simp)
  have e1:(x :: y :: r).length - 1=((y :: r).length - 1)+1:=by simp
  have e2:(x :: y :: r).getD ((x :: y :: r).length - 1) qk.dflt=(y :: r).getD ((y :: r).length - 1) qk.dflt:=by
   rw [e1]
   rfl
  show x :: qft (y :: r) s=_
  rw [ih,e2,e1]
  split
  ·rfl
  ·rfl
theorem qu5 (s:qk.den):(out:List qk.den)->(qft out s).length<=out.length+1
 |[]=>by simp [qft]
 |[x]=>by unfold qft; split<;>simp
 |x :: y :: r=>by
  have:=qu5 s (y :: r)
  simp only [qft,List.length_cons] at this ⊢
  omega
theorem qpx (s:qk.den) (out:List qk.den) (day:Int):(qr3 s out day).length<=out.length+1:=by
 unfold qr3
 split
 ·omega
 ·exact qu5 _ _
theorem ycq {out:List qk.den} (h:out.length<=1000000):qd4 out=(out.length:Int) - 1:=IntWalk.i64_in _ (by omega)
theorem zi1 {α:Type} {s:qk.den} {out:List qk.den} {day:Int} {K:List qk.den->Fr α} {Q:α->Prop} (hl:out.length<=1000000) (h:(K (qr3 s out day)).satP Q):(ybc s out day K).satP Q:=by
 unfold qr3 at h
 have hw:=ycq hl
 have hm:out.length+1<=maxLen/\(out.length+1) * 88<=140737488355328:=⟨by unfold maxLen; omega,by omega⟩
 refine ⟨fun hb=>?_,fun hb=>?_⟩
 ·have hb':s.1.1=day:=eq_of_beq (α:=Int) hb
  rw [if_pos hb'] at h
  exact h
 ·have hb':¬ s.1.1=day:=ne_of_beq_false (α:=Int) hb
  rw [if_neg hb'] at h
  refine ⟨fun hd=>?_,fun hd=>?_,?_⟩
  ·have:=of_decide_eq_true hd
   omega
  ·have:=of_decide_eq_true hd
   omega
  ·by_cases h0:0 < out.length
   ·have hge:decide (qd4 out ≥ 0)=true:=decide_eq_true (by omega)
    have ht:(qd4 out).toNat=out.length - 1:=by omega
    have hp:=zll (qh1 s day) out h0
    rw [hge,ht]
    refine ⟨fun hh=>?_,fun hh=>?_⟩
    ·have hh':qjf (out.getD (out.length - 1) qk.dflt) (qh1 s day)=true:=hh
     rw [if_pos hh'] at hp
     refine ⟨⟨by omega,by omega⟩,by omega,?_⟩
     have e:qft out ((s.1.1,day,()),s.2)=out.set (out.length - 1) (qh1 (out.getD (out.length - 1) qk.dflt) day):=hp
     rw [e] at h
     exact h
    ·have hh':¬ qjf (out.getD (out.length - 1) qk.dflt) (qh1 s day)=true:=by
      intro hx
      have:qjf (out.getD (out.length - 1) qk.dflt) (qh1 s day)=false:=hh
      rw [hx] at this
      cases this
     rw [if_neg hh'] at hp
     have e:qft out ((s.1.1,day,()),s.2)=out++[qh1 s day]:=hp
     rw [e] at h
     exact ⟨hm,h⟩
   ·have h00:out=[]:=List.length_eq_zero_iff.1 (by omega)
    subst h00
    have hge:decide (qd4 [] ≥ 0)=false:=decide_eq_false (by rw [hw]; decide)
    rw [hge]
    exact ⟨fun hh=>(by cases hh),fun _=>⟨hm,h⟩⟩
theorem zwi {α:Type} {s:qk.den} {c:qc.den} {K:qk.den->Fr α} {Q:α->Prop} (hl:c.2.2.2.2.1.length<=1000000) (h:(K (zgr s c)).satP Q):(yfu s c K).satP Q:=by
 unfold zgr at h
 have hm:([]:List qb.den).length+c.2.2.2.2.1.length<=maxLen/\(([]:List qb.den).length+c.2.2.2.2.1.length) * 40<=140737488355328:=by
  simp only [List.length_nil,Nat.zero_add]
  exact ⟨by unfold maxLen; omega,by omega⟩
 refine ⟨fun k=>?_,fun k=>⟨fun k2=>?_,fun k2=>⟨fun k3=>?_,fun k3=>⟨fun k4=>?_,fun k4=>?_⟩⟩⟩⟩
 ·have k':c.2.2.1=1:=eq_of_beq (α:=Int) k
  rw [if_pos k'] at h
  exact h
 ·have k':¬ c.2.2.1=1:=ne_of_beq_false (α:=Int) k
  have k2':c.2.2.1=2:=eq_of_beq (α:=Int) k2
  rw [if_neg k',if_pos k2'] at h
  exact ⟨hm,h⟩
 ·have k':¬ c.2.2.1=1:=ne_of_beq_false (α:=Int) k
  have k2':¬ c.2.2.1=2:=ne_of_beq_false (α:=Int) k2
  have k3':c.2.2.1=3:=eq_of_beq (α:=Int) k3
  rw [if_neg k',if_neg k2',if_pos k3'] at h
  exact h
 ·have k':¬ c.2.2.1=1:=ne_of_beq_false (α:=Int) k
  have k2':¬ c.2.2.1=2:=ne_of_beq_false (α:=Int) k2
  have k3':¬ c.2.2.1=3:=ne_of_beq_false (α:=Int) k3
  have k4':c.2.2.1=4:=eq_of_beq (α:=Int) k4
  rw [if_neg k',if_neg k2',if_neg k3',if_pos k4'] at h
  exact h
 ·have k':¬ c.2.2.1=1:=ne_of_beq_false (α:=Int) k
  have k2':¬ c.2.2.1=2:=ne_of_beq_false (α:=Int) k2
  have k3':¬ c.2.2.1=3:=ne_of_beq_false (α:=Int) k3
  have k4':¬ c.2.2.1=4:=ne_of_beq_false (α:=Int) k4
  rw [if_neg k',if_neg k2',if_neg k3',if_neg k4'] at h
  exact h
structure InvC5 (l:List Int) (n i:Int) (h:ql.den) (out:List qk.den):Prop where
 i0:0<=i
 il:i<=n
 nl:n=l.length
 few:l.length<=500000
 inl:∀ x ∈ l,0<=x/\x < ((chL h).length:Int)
 cov:∀ c ∈ chL h,c.2.2.2.2.1.length<=1000000
 outs:(out.length:Int)<=i
def FC5 (x:MC.X):Fr zc6.Out:=
 let l:List Int:=x.1.1; let n:Int:=x.1.2.1; let i:Int:=x.1.2.2.1; let h:ql.den:=x.2.1; let sp:zw.den:=x.2.2.1; let s:qk.den:=x.2.2.2.1; let out:List qk.den:=x.2.2.2.2.1.1; let v:qt.den:=x.2.2.2.2.2.1
 Fr.need (InvC5 l n i h out) (Fr.val (Rd.out ((),(h,sp,(qku ((l.drop i.toNat).map (vn h)) s out).1,((qku ((l.drop i.toNat).map (vn h)) s out).2,()),v,()))))
theorem ypp (l:List Int) (n i:Int) (h:ql.den) (sp:zw.den) (s:qk.den) (out:List qk.den) (v:qt.den) (hinv:InvC5 l n i h out) (Q:zc6.Out->Prop)
  (hq:Q (Rd.out ((),(h,sp,(qku ((l.drop i.toNat).map (vn h)) s out).1,((qku ((l.drop i.toNat).map (vn h)) s out).2,()),v,())))) :
  (ybv ((l,n,i,()),(h,sp,s,(out,()),v,()))).satP fun
   |.next x'=>InvC5 x'.1.1 x'.1.2.1 x'.1.2.2.1 x'.2.1 x'.2.2.2.2.1.1/\((x'.1.2.1:Int) - x'.1.2.2.1).toNat < (n - i).toNat/\(FC5 x').satP Q
   |.out y=>Q (.out y)
   |.back z=>Q (.back z)
   |.pan p=>Q (.pan p):=by
 obtain ⟨h0,h1,rfl,h2,h3,h4,h5⟩:=hinv
 obtain ⟨i',rfl⟩:∃ n:Nat,i=n:=⟨i.toNat,by omega⟩
 simp only [Int.toNat_natCast] at hq
 dsimp only [ybv,Fr.satP,Ty.den,PT.den]
 simp only [Int.toNat_natCast]
 refine ⟨fun hi=>?_,fun hi=>?_⟩
 ·have hlt:i' < l.length:=by have:(i':Int) < (l.length:Int):=of_decide_eq_true hi; omega
  have w:IntKind.i64.wrap ((i':Int)+1)=(i'+1:Nat):=qoe (by omega)
  rw [w]
  have hm:=h3 _ (vo (d:=(0:Int)) hlt)
  rw [yhi hlt,List.map_cons] at hq
  have hcm:vn h (l.getD i' 0) ∈ chL h:=by
   unfold vn
   exact vo (by omega)
  have hE:=qpx s out (vn h (l.getD i' 0)).2.1
  have hI:InvC5 l (l.length:Int) ((i'+1:Nat):Int) h (qr3 s out (vn h (l.getD i' 0)).2.1):=⟨by omega,by omega,rfl,h2,h3,h4,by omega⟩
  have hμ:((l.length:Int) - ((i'+1:Nat):Int)).toNat < ((l.length:Int) - (i':Int)).toNat:=by omega
  refine ⟨⟨by omega,by omega⟩,hm,zi1 (by omega) ⟨hm,zwi (h4 _ hcm) ⟨hI,hμ,hI,hq⟩⟩⟩
 ·have hge:¬ i' < l.length:=by have:¬ (i':Int) < (l.length:Int):=of_decide_eq_false hi; omega
  rw [List.drop_eq_nil_of_le (by omega)] at hq
  exact hq
theorem ynh:qe Tryz.prog (.loop (qo Tryz.f77 0)) MC zc6 FC5:=by
 refine qe.loop (n:=52) (id:=0) yqc (inv:=fun x=>InvC5 x.1.1 x.1.2.1 x.1.2.2.1 x.2.1 x.2.2.2.2.1.1) (μ:=fun x=>((x.1.2.1:Int) - x.1.2.2.1).toNat) ?_ (fun x Q h=>h.1)
 rintro ⟨⟨l,n,i,_⟩,h,sp,s,⟨out,_⟩,v,_⟩ hinv Q hq
 exact ypp l n i h sp s out v hinv Q hq.2
noncomputable def zz9:FuncId->Option (Func × (Nat->St->Option Tr)):=qai [(77,(Tryz.f77,fun _=>zc6.han CC2.Γ MC FC5))]
theorem ygs:∀ f fn Λ,zz9 f=some (fn,Λ)->Tryz.prog.funcs[f]? = some fn/\∀ c E',fn.body=some c->jt Tryz.prog E' Λ c 0:=fun f fn Λ h=>by
 simp only [zz9,qai] at h
 split at h
 ·rename_i hf
  subst hf
  cases h
  exact ⟨by kernel_rfl,fun c E' hc=>yz hc (by kernel_rfl) (b:=qo Tryz.f77 0) (by kernel_rfl) (qe.han zhb rfl ynh)⟩
 ·cases h
noncomputable def COf:Cx:=cxK [(75,zq1),(76,qt0),(78,qzb)] [] (qp6 Tryz.prog CC2 zz9)
theorem zhj:CxOK Tryz.prog COf:=qcz (ps:=[]) qv ⟨zyn,yel,yke,trivial⟩ trivial (qil zhb ygs)
def MO:LS:=⟨[(29,.d i64),(30,.d i64)],[.o 8 122 qk,.al 28 8,.x 6 132 qt,.r 6 6 0]⟩
def EO:LS:=⟨[],[.o 8 122 qk]⟩
def ptO:Pt:=⟨56,0,MO,EO,⟨[(4,.d qac),(5,.d i64)],[]⟩⟩
def yrS (v:qt.den) (s:qk.den):Int × Int:=qpn v s.2.2.1 s.2.2.2.1
def qn8 (s:qk.den) (y:Int):qk.den:=(s.1,s.2.1,s.2.2.1,s.2.2.2.1,y,())
def fO (x:MO.X):Fr ptO.Out:=
 let n:Int:=x.1.1; let i:Int:=x.1.2.1; let l:List qk.den:=x.2.1; let v:qt.den:=x.2.2.1
 let s:qk.den:=l.getD i.toNat qk.dflt
 Fr.br (decide (i < n))
  (Fr.need (0<=i/\i < (l.length:Int)) (Fr.need (i.toNat < l.length)
   (Fr.br (!s.2.1) (Fr.val (Rd.next ((n,IntKind.i64.wrap (i+1),()),(l,v,()))))
    (Fr.need (0<=i/\i < (l.length:Int)) (Fr.need (i.toNat < l.length)
     (Fr.br ((qzb.f (v,s.2.2.1,s.2.2.2.1,())).2.1 != 0) (Fr.val (Rd.back (([],(qzb.f (v,s.2.2.1,s.2.2.2.1,())).2.1,()),())))
      (Fr.val (Rd.next ((n,IntKind.i64.wrap (i+1),()),(l.set i.toNat (qn8 s (qzb.f (v,s.2.2.1,s.2.2.2.1,())).1),v,()))))))))))
  (Fr.val (Rd.out ((),(l,()))))
theorem yrt:qe Tryz.prog (qo Tryz.f46 0) MO ptO fO:=qe.of_run zhj (bs:=0) rfl rfl rfl (fun _=>qd _ 0) (fun x=>by kernel_rfl)
def qfa (v:qt.den) (s:qk.den):qk.den:=if s.2.1=true then qn8 s (yrS v s).1 else s
def qaj (v:qt.den):List qk.den->Int
 |[]=>0
 |s :: l=>if s.2.1=true then (if (yrS v s).2=0 then qaj v l else (yrS v s).2) else qaj v l
structure InvO (n i:Int) (l:List qk.den):Prop where
 i0:0<=i
 il:i<=n
 nl:n=l.length
 few:l.length<=1000000
def qji (l:List qk.den) (e:Int):Fr ptO.Out:=Fr.br (e != 0) (Fr.val (Rd.back (([],e,()),()))) (Fr.val (Rd.out ((),(l,()))))
def FO (x:MO.X):Fr ptO.Out:=
 let n:Int:=x.1.1; let i:Int:=x.1.2.1; let l:List qk.den:=x.2.1; let v:qt.den:=x.2.2.1
 Fr.need (InvO n i l) (qji (l.take i.toNat++(l.drop i.toNat).map (qfa v)) (qaj v (l.drop i.toNat)))
theorem yrl (n i:Int) (l:List qk.den) (v:qt.den) (hinv:InvO n i l) (Q:ptO.Out->Prop) (hq:(qji (l.take i.toNat++(l.drop i.toNat).map (qfa v)) (qaj v (l.drop i.toNat))).satP Q) :
  (fO ((n,i,()),(l,v,()))).satP fun
   |.next x'=>InvO x'.1.1 x'.1.2.1 x'.2.1/\((x'.1.1:Int) - x'.1.2.1).toNat < (n - i).toNat/\(FO x').satP Q
   |.out y=>Q (.out y)
   |.back z=>Q (.back z)
   |.pan p=>Q (.pan p):=by
 obtain ⟨h0,h1,rfl,h2⟩:=hinv
 obtain ⟨i',rfl⟩:∃ n:Nat,i=n:=⟨i.toNat,by omega⟩
 simp only [Int.toNat_natCast] at hq
 dsimp only [fO,Fr.satP,Ty.den,PT.den]
 simp only [Int.toNat_natCast]
 refine ⟨fun hi=>?_,fun hi=>?_⟩
 ·have hlt:i' < l.length:=by have:(i':Int) < (l.length:Int):=of_decide_eq_true hi; omega
  have w:IntKind.i64.wrap ((i':Int)+1)=(i'+1:Nat):=qoe (by omega)
  rw [w]
  have hg:l.getD i' qk.dflt=l[i']:=by rw [List.getD_eq_getElem?_getD,List.getElem?_eq_getElem hlt]; rfl
  have hd:l.drop i'=l.getD i' qk.dflt :: l.drop (i'+1):=by rw [hg]; exact List.drop_eq_getElem_cons hlt
  have hμ:((l.length:Int) - ((i'+1:Nat):Int)).toNat < ((l.length:Int) - (i':Int)).toNat:=by omega
  have hb:0<=(i':Int)/\(i':Int) < (l.length:Int):=⟨by omega,by omega⟩
  rw [hd] at hq
  generalize hs:l.getD i' qk.dflt=s at *
  have htk:l.take (i'+1)=l.take i'++[s]:=by
   rw [hg]
   exact (List.take_append_getElem hlt).symm
  refine ⟨hb,hlt,fun hoff=>?_,fun hon=>⟨hb,hlt,fun he=>?_,fun he=>?_⟩⟩
  ·have hoff':¬ s.2.1=true:=by
    intro hx
    rw [hx] at hoff
    cases hoff
   have hI:InvO (l.length:Int) ((i'+1:Nat):Int) l:=⟨by omega,by omega,rfl,h2⟩
   refine ⟨hI,hμ,hI,?_⟩
   have e1:qaj v (s :: l.drop (i'+1))=qaj v (l.drop (i'+1)):=if_neg hoff'
   have e2:qfa v s=s:=if_neg hoff'
   rw [e1,List.map_cons,e2] at hq
   show (qji (l.take (i'+1)++(l.drop (i'+1)).map (qfa v)) (qaj v (l.drop (i'+1)))).satP Q
   rw [htk,List.append_assoc]
   exact hq
  ·have hon':s.2.1=true:=by
    cases hx:s.2.1 with
    |true=>rfl
    |false=>rw [hx] at hon; cases hon
   have he':¬ (yrS v s).2=0:=bne_iff_ne.1 he
   have e1:qaj v (s :: l.drop (i'+1))=(yrS v s).2:=by
    unfold qaj
    rw [if_pos hon',if_neg he']
   rw [e1] at hq
   exact hq.1 he
  ·have hon':s.2.1=true:=by
    cases hx:s.2.1 with
    |true=>rfl
    |false=>rw [hx] at hon; cases hon
   have he':(yrS v s).2=0:=by
    have:((yrS v s).2 != 0)=false:=he
    simpa using this
   have hlen:(l.set i' (qn8 s (yrS v s).1)).length=l.length:=List.length_set
   have hI:InvO (l.length:Int) ((i'+1:Nat):Int) (l.set i' (qn8 s (yrS v s).1)):=⟨by omega,by omega,by rw [hlen],by rw [hlen]; exact h2⟩
   refine ⟨hI,hμ,hI,?_⟩
   have e1:qaj v (s :: l.drop (i'+1))=qaj v (l.drop (i'+1)):=by
    conv=>lhs; unfold qaj
    rw [if_pos hon',if_pos he']
   have e2:qfa v s=qn8 s (yrS v s).1:=if_pos hon'
   rw [e1,List.map_cons,e2] at hq
   show (qji ((l.set i' (qn8 s (yrS v s).1)).take (i'+1)++((l.set i' (qn8 s (yrS v s).1)).drop (i'+1)).map (qfa v)) (qaj v ((l.set i' (qn8 s (yrS v s).1)).drop (i'+1)))).satP Q
   have e3:(l.set i' (qn8 s (yrS v s).1)).drop (i'+1)=l.drop (i'+1):=List.drop_set_of_lt (by omega)
   have e4:(l.set i' (qn8 s (yrS v s).1)).take (i'+1)=l.take i'++[qn8 s (yrS v s).1]:=by
    rw [List.take_add_one,List.take_set_of_le (by omega)]
    simp [hlt]
   rw [e3,e4,List.append_assoc]
   exact hq
 ·have hge:¬ i' < l.length:=by have:¬ (i':Int) < (l.length:Int):=of_decide_eq_false hi; omega
  rw [List.drop_eq_nil_of_le (by omega),List.take_of_length_le (by omega)] at hq
  have hq':=hq.2 rfl
  simp only [List.map_nil,List.append_nil] at hq'
  exact hq'
theorem yp1:qe Tryz.prog (.loop (qo Tryz.f46 0)) MO ptO FO:=by
 refine qe.loop (n:=56) (id:=0) yrt (inv:=fun x=>InvO x.1.1 x.1.2.1 x.2.1) (μ:=fun x=>((x.1.1:Int) - x.1.2.1).toNat) ?_ (fun x Q h=>h.1)
 rintro ⟨⟨n,i,_⟩,l,v,_⟩ hinv Q hq
 exact yrl n i l v hinv Q hq.2
def zgt (v:qt.den) (l:List qk.den):Fr (qi [qac,i64]):=
 Fr.need (InvO l.length 0 l) (Fr.br (qaj v (l.drop (0:Int).toNat) != 0) (Fr.val ([],qaj v (l.drop (0:Int).toNat),())) (Fr.val (l.take (0:Int).toNat++(l.drop (0:Int).toNat).map (qfa v),0,())))
def goH (h:ql.den):qk.den × List qk.den:=qku (((vu h).drop (0:Int).toNat).map (vn h)) ((h.2.2.1.1.1,0,()),true,h.2.2.1.2.1,[]++h.2.2.1.2.2.1,0,()) []
def qz1 (x:qm [.d ql,.d zd]):Fr (qi [qac,i64]):=
 Fr.br (!(zq1.f (x.1,())).1) (Fr.val ([],1,()))
  (Fr.need (jq x.2.1)
   (Fr.br ((qt0.f (x.2.1,x.1.2.2.1.1.1,())).2.1 != 0) (Fr.val ([],(qt0.f (x.2.1,x.1.2.2.1.1.1,())).2.1,()))
    (Fr.need (([]:List qb.den).length+x.1.2.2.1.2.2.1.length<=maxLen/\(([]:List qb.den).length+x.1.2.2.1.2.2.1.length) * 40<=140737488355328)
     (Fr.need (((chL x.1).length:Int)<=1000000)
      (Fr.need (InvC5 (vu x.1) ((vu x.1).length:Int) 0 x.1 [])
       (ybc (goH x.1).1 (goH x.1).2 x.1.2.2.1.1.2.1 (zgt (qt0.f (x.2.1,x.1.2.2.1.1.1,())).1)))))))
theorem of_run:qa Tryz.prog 46 ⟨[.d ql,.d zd],[qac,i64],fun xs=>(qz1 xs).get,fun xs=>[(qz1 xs).ok]⟩:=
 qg zhj (Λ:=fun _=>ptO.han COf.Γ MO FO) (fn:=Tryz.f46) (fr:=qz1) (ps:=[.d ql,.d zd]) (rs:=[qac,i64]) (ql.dflt,zd.dflt,()) (by kernel_rfl)
  (fun c E hc=>yz hc (by kernel_rfl) (b:=qo Tryz.f46 0) (by kernel_rfl) (qe.han zhj rfl yp1)) (fun x=>by kernel_rfl)
def jf (h:ql.den):Prop:=(chL h).length<=500000/\h.2.2.1.2.2.1.length<=1000000/\∀ c ∈ chL h,c.2.2.2.2.1.length<=1000000
def ofF (h:ql.den) (t:zd.den):List qk.den × Int:=
 if qsf h=true then
  (if (ym h.2.2.1.1.1 t.1.reverse).2=0 then
   (if qaj (ym h.2.2.1.1.1 t.1.reverse).1 (qdx h)=0 then ((qdx h).map (qfa (ym h.2.2.1.1.1 t.1.reverse).1),0) else ([],qaj (ym h.2.2.1.1.1 t.1.reverse).1 (qdx h)))
  else ([],(ym h.2.2.1.1.1 t.1.reverse).2))
 else ([],1)
def cOf:Ct:=⟨[.d ql,.d zd],[qac,i64],fun x=>((ofF x.1 x.2.1).1,(ofF x.1 x.2.1).2,()),fun x=>[jf x.1,jq x.2.1]⟩
theorem ql7 (h:ql.den):(vu h).length=(chL h).length:=by
 unfold vu
 rw [qam,qmb]
theorem qss {h:ql.den} {x:Int} (hx:x ∈ vu h):0<=x/\x < ((chL h).length:Int):=qs2 (qpi.1 hx)
theorem quq:(l:List qc.den)->(s:qk.den)->(out:List qk.den)->(qku l s out).2.length<=out.length+l.length
 |[],_,_=>Nat.le_refl _
 |c :: l,s,out=>by
  have h1:=quq l (zgr ((c.2.1,s.1.2.1,()),s.2) c) (qr3 s out c.2.1)
  have h2:=qpx s out c.2.1
  simp only [qku,List.length_cons]
  omega
theorem ztc:qa Tryz.prog 46 cOf:=
 vt of_run _ _ (fun w F x vs hr hok=>by
  obtain ⟨h,t,_⟩:=x
  obtain ⟨⟨f1,f2,f3⟩,f4⟩:jf h/\jq t:=hok
  show (qz1 (h,t,())).ok/\(qz1 (h,t,())).get=((ofF h t).1,(ofF h t).2,())
  unfold ofF
  cases hh:qsf h with
  |false=>
   refine Fr.br_t ?_ ⟨trivial,rfl⟩
   show (!(qsf h))=true
   rw [hh]
   rfl
  |true=>
   rw [if_pos rfl]
   refine Fr.br_f ?_ (Fr.need_ f4 ?_)
   ·show (!(qsf h))=false
    rw [hh]
    rfl
   ·by_cases hv:(ym h.2.2.1.1.1 t.1.reverse).2=0
    ·rw [if_pos hv]
     refine Fr.br_f ?_ (Fr.need_ ?_ (Fr.need_ ?_ (Fr.need_ ?_ ?_)))
     ·show ((ym h.2.2.1.1.1 t.1.reverse).2 != 0)=false
      rw [hv]
      rfl
     ·show ([]:List qb.den).length+h.2.2.1.2.2.1.length<=maxLen/\(([]:List qb.den).length+h.2.2.1.2.2.1.length) * 40<=140737488355328
      simp only [List.length_nil,Nat.zero_add]
      exact ⟨by unfold maxLen; omega,by omega⟩
     ·show ((chL h).length:Int)<=1000000
      omega
     ·show InvC5 (vu h) ((vu h).length:Int) 0 h []
      exact ⟨Int.le_refl _,Int.natCast_nonneg _,rfl,by rw [ql7]; exact f1,fun x hx=>qss hx,f3,Int.le_refl _⟩
     ·have hgo:(goH h).2.length<=500000:=by
       have:=quq (((vu h).drop (0:Int).toNat).map (vn h)) ((h.2.2.1.1.1,0,()),true,h.2.2.1.2.1,[]++h.2.2.1.2.2.1,0,()) []
       have e:(((vu h).drop (0:Int).toNat).map (vn h)).length=(chL h).length:=by
        rw [List.length_map]
        exact ql7 h
       rw [e] at this
       have h2:(goH h).2.length<=0+(chL h).length:=this
       omega
      have hcut:qr3 (goH h).1 (goH h).2 h.2.2.1.1.2.1=qdx h:=rfl
      have hclen:(qdx h).length<=1000000:=by
       rw [← hcut]
       have:=qpx (goH h).1 (goH h).2 h.2.2.1.1.2.1
       omega
      have hkey:(zgt (ym h.2.2.1.1.1 t.1.reverse).1 (qdx h)).ok/\(zgt (ym h.2.2.1.1.1 t.1.reverse).1 (qdx h)).get=((if qaj (ym h.2.2.1.1.1 t.1.reverse).1 (qdx h)=0 then ((qdx h).map (qfa (ym h.2.2.1.1.1 t.1.reverse).1),(0:Int)) else ([],qaj (ym h.2.2.1.1.1 t.1.reverse).1 (qdx h))).1,(if qaj (ym h.2.2.1.1.1 t.1.reverse).1 (qdx h)=0 then ((qdx h).map (qfa (ym h.2.2.1.1.1 t.1.reverse).1),(0:Int)) else ([],qaj (ym h.2.2.1.1.1 t.1.reverse).1 (qdx h))).2,()):=by
       refine Fr.need_ ⟨Int.le_refl _,Int.natCast_nonneg _,rfl,hclen⟩ ?_
       by_cases he:qaj (ym h.2.2.1.1.1 t.1.reverse).1 (qdx h)=0
       ·rw [if_pos he]
        refine Fr.br_f ?_ ⟨trivial,rfl⟩
        show (qaj (ym h.2.2.1.1.1 t.1.reverse).1 (qdx h) != 0)=false
        rw [he]
        rfl
       ·rw [if_neg he]
        exact Fr.br_t (bne_iff_ne.2 he) ⟨trivial,rfl⟩
      have hs:=zi1 (s:=(goH h).1) (out:=(goH h).2) (day:=h.2.2.1.1.2.1) (K:=zgt (ym h.2.2.1.1.1 t.1.reverse).1) (Q:=fun y=>y=((if qaj (ym h.2.2.1.1.1 t.1.reverse).1 (qdx h)=0 then ((qdx h).map (qfa (ym h.2.2.1.1.1 t.1.reverse).1),(0:Int)) else ([],qaj (ym h.2.2.1.1.1 t.1.reverse).1 (qdx h))).1,(if qaj (ym h.2.2.1.1.1 t.1.reverse).1 (qdx h)=0 then ((qdx h).map (qfa (ym h.2.2.1.1.1 t.1.reverse).1),(0:Int)) else ([],qaj (ym h.2.2.1.1.1 t.1.reverse).1 (qdx h))).2,())) (by omega) (by
       rw [hcut]
       exact Fr.satP_of hkey.1 hkey.2)
      exact Fr.satP_get hs
    ·rw [if_neg hv]
     refine Fr.br_t ?_ ⟨trivial,rfl⟩
     show ((ym h.2.2.1.1.1 t.1.reverse).2 != 0)=true
     exact bne_iff_ne.2 hv)
abbrev ju:Ty:=.pair i64 (.pair i64 (.pair i64 (.pair i64 (.pair i64 (.pair i64 .unit)))))
def zh9:Ct:=⟨[.d i64],[.bool],fun x=>(decide (1<=x.1/\x.1<=1000000000),()),fun _=>[]⟩
def zgh:Ct:=⟨[.d i64],[.bool],fun x=>(decide (1<=x.1/\x.1<=292194),()),fun _=>[]⟩
theorem zdi (n a b:Int):(bif decide (n ≥ a) then decide (n<=b) else false)=decide (a<=n/\n<=b):=by
 rw [Bool.eq_iff_iff]
 simp
theorem ymt:qa Tryz.prog 90 zh9:=
 flat (ps:=[.d i64]) (rs:=[.bool]) (zb (cs:=[]) (ps:=[]) qv trivial trivial) (fn:=Tryz.f90) (fr:=fun x=>Fr.val (bif decide (x.1 ≥ 1) then decide (x.1<=1000000000) else false,())) (0,()) (by kernel_rfl) (fun x=>by kernel_rfl) _ _
  (fun _ _ x _ _ _=>⟨trivial,Prod.ext (zdi x.1 1 1000000000) rfl⟩)
theorem yhf:qa Tryz.prog 91 zgh:=
 flat (ps:=[.d i64]) (rs:=[.bool]) (zb (cs:=[]) (ps:=[]) qv trivial trivial) (fn:=Tryz.f91) (fr:=fun x=>Fr.val (bif decide (x.1 ≥ 1) then decide (x.1<=292194) else false,())) (0,()) (by kernel_rfl) (fun x=>by kernel_rfl) _ _
  (fun _ _ x _ _ _=>⟨trivial,Prod.ext (zdi x.1 1 292194) rfl⟩)
def qzd (i p k l b e:Int):Bool:=decide (1<=i/\i<=1000000000)&&(decide (1<=p/\p<=1000000000)&&(decide (0<=e/\e<=1000000000)&&(decide (0<=k/\k<=7)&&(decide (1<=l/\l<=292194)&&decide (1<=b/\b<=292194)))))
def zh2:Ct:=⟨[.d ju],[.bool],fun x=>(qzd x.1.1 x.1.2.1 x.1.2.2.1 x.1.2.2.2.1 x.1.2.2.2.2.1 x.1.2.2.2.2.2.1,()),fun _=>[]⟩
def ylv:Ct:=⟨[.d i64,.d i64,.d i64],[.bool],fun x=>(decide (x.2.1<=x.1/\x.1<=x.2.2.1),()),fun _=>[]⟩
theorem ymv:qa Tryz.prog 199 ylv:=
 flat (ps:=[.d i64,.d i64,.d i64]) (rs:=[.bool]) (zb (cs:=[]) (ps:=[]) qv trivial trivial) (fn:=Tryz.f199) (fr:=fun x=>Fr.val (bif decide (x.1 ≥ x.2.1) then decide (x.1<=x.2.2.1) else false,())) (0,0,0,()) (by kernel_rfl) (fun x=>by kernel_rfl) _ _
  (fun _ _ x _ _ _=>⟨trivial,Prod.ext (zdi x.1 x.2.1 x.2.2.1) rfl⟩)
noncomputable def CK1:Cx:=cx [(90,zh9),(91,zgh),(199,ylv)] []
theorem ykr:CxOK Tryz.prog CK1:=zb qv ⟨ymt,yhf,ymv,trivial⟩ trivial
def yrf (x:qm [.d ju]):Fr (qi [.bool]):=
 let c:ju.den:=x.1
 Fr.val (bif bif bif bif bif bif (zh9.f (c.1,())).1 then (zh9.f (c.2.1,())).1 else false then (bif c.2.2.2.2.2.1==0 then true else (zh9.f (c.2.2.2.2.2.1,())).1) else false then decide (c.2.2.1 ≥ 0) else false then decide (c.2.2.1<=7) else false then (zgh.f (c.2.2.2.1,())).1 else false then (zgh.f (c.2.2.2.2.1,())).1 else false,())
theorem yp7 (i p k l b e:Int):(bif bif bif bif bif bif decide (1<=i/\i<=1000000000) then decide (1<=p/\p<=1000000000) else false then (bif e==0 then true else decide (1<=e/\e<=1000000000)) else false then decide (k ≥ 0) else false then decide (k<=7) else false then decide (1<=l/\l<=292194) else false then decide (1<=b/\b<=292194) else false)=qzd i p k l b e:=by
 have e1:(bif e==0 then true else decide (1<=e/\e<=1000000000))=decide (0<=e/\e<=1000000000):=by
  rw [Bool.eq_iff_iff]
  simp
  omega
 have e2:decide (0<=k/\k<=7)=(decide (k ≥ 0)&&decide (k<=7)):=by
  rw [Bool.eq_iff_iff]
  simp
 unfold qzd
 rw [e1,e2]
 cases decide (1<=i/\i<=1000000000)<;>cases decide (1<=p/\p<=1000000000)<;>cases decide (0<=e/\e<=1000000000)<;>cases decide (k ≥ 0)<;>cases decide (k<=7)<;>cases decide (1<=l/\l<=292194)<;>rfl
theorem zxq:qa Tryz.prog 55 zh2:=
 flat (ps:=[.d ju]) (rs:=[.bool]) ykr (fn:=Tryz.f55) (fr:=yrf) (ju.dflt,()) (by kernel_rfl) (fun x=>by kernel_rfl) _ _
  (fun _ _ x _ _ _=>by
   obtain ⟨⟨i,p,k,l,b,e,_⟩,_⟩:=x
   exact ⟨trivial,Prod.ext (yp7 i p k l b e) rfl⟩)
abbrev zf:Ty:=.pair i64 (.pair i64 (.pair i64 .unit))
abbrev qf:Ty:=.pair i64 (.pair i64 (.pair zw (.pair i64 (.pair i64 (.pair i64 (.pair i64 (.pair i64 .unit)))))))
abbrev factT:Ty:=.pair i64 (.pair i64 (.pair i64 (.pair i64 (.pair i64 (.pair zo (.pair qc (.pair ju (.pair zf (.pair qf .unit)))))))))
abbrev jourT:Ty:=.pair zd (.pair (.sl factT) .unit)
abbrev ze:Ty:=.pair ql (.pair i64 .unit)
abbrev qr:Ty:=.pair ju (.pair (.sl zf) .unit)
abbrev qj:Ty:=.pair zd (.pair (.sl ze) (.pair (.sl qr) (.pair (.sl qf) (.pair i64 .unit))))
def qdq {α:Type} (g:α->Bool):List α->Int->Option Int
 |[],_=>none
 |x :: r,i=>if g x=true then some i else qdq g r (i+1)
abbrev fnT (T:Ty):PT:=.fn [T] [.bool]
def MIt (T:Ty):LS:=⟨[(0,.d (.sl T)),(1,fnT T),(7,.d i64),(8,.d i64)],[]⟩
def qs0 (T:Ty):Pt:=⟨19,0,MIt T,⟨[],[]⟩,⟨[(4,.d i64)],[]⟩⟩
def fIt (T:Ty) (x:(MIt T).X):Fr (qs0 T).Out:=
 match x with
 |((l,g,n,i,_),_)=>Fr.br (decide (i < n))
  (Fr.need (0<=i/\i < l.length)
   (Fr.br (g (l.getD i.toNat T.dflt,())).1 (Fr.val (Rd.back ((i,()),())))
    (Fr.val (Rd.next ((l,g,n,IntKind.i64.wrap (i+1),()),())))))
  (Fr.val (Rd.out ((),())))
def qxm {α:Type} (l:List α) (n i:Int):Prop:=0<=i/\i<=n/\n=l.length/\n<=9223372036854775807
def FIt (T:Ty) (x:(MIt T).X):Fr (qs0 T).Out:=
 Fr.need (qxm x.1.1 x.1.2.2.1 x.1.2.2.2.1) (Fr.br (qdq (fun n=>(x.1.2.1 (n,())).1) (x.1.1.drop x.1.2.2.2.1.toNat) x.1.2.2.2.1).isSome
   (Fr.val (.back (((qdq (fun n=>(x.1.2.1 (n,())).1) (x.1.1.drop x.1.2.2.2.1.toNat) x.1.2.2.2.1).getD (-1),()),()))) (Fr.val (.out ((),()))))
theorem ypr (T:Ty) (l:List T.den) (g:qi [T]->qi [.bool]) (n i:Int) (hinv:qxm l n i) (Q:(qs0 T).Out->Prop) (hq:(Fr.br (qdq (fun n=>(g (n,())).1) (l.drop i.toNat) i).isSome (Fr.val (Rd.back (((qdq (fun n=>(g (n,())).1) (l.drop i.toNat) i).getD (-1),()),()))) (Fr.val (Rd.out ((),())))  : Fr (qs0 T).Out).satP Q) :
  (fIt T ((l,g,n,i,()),())).satP fun
   |.next x'=>qxm x'.1.1 x'.1.2.2.1 x'.1.2.2.2.1/\(x'.1.2.2.1 - x'.1.2.2.2.1).toNat < (n - i).toNat/\(FIt T x').satP Q
   |.out y=>Q (.out y)
   |.back z=>Q (.back z)
   |.pan p=>Q (.pan p):=by
 obtain ⟨h1,h2,h3,h4⟩:=hinv
 subst h3
 refine ⟨fun hi=>?_,fun hi=>?_⟩
 ·have hi':i < (l.length:Int):=of_decide_eq_true hi
  obtain ⟨k,rfl⟩:∃ k:Nat,i=k:=⟨i.toNat,by omega⟩
  have hl:k < l.length:=by omega
  have g1:l.getD (k:Int).toNat T.dflt=l[k]:=by
   rw [show (k:Int).toNat=k by omega,List.getD_eq_getElem?_getD,List.getElem?_eq_getElem hl]; rfl
  have hw:IntKind.i64.wrap ((k:Int)+1)=k+1:=IntWalk.i64_in _ (by omega)
  have hd:l.drop (k:Int).toNat=l[k] :: l.drop (k+1):=by
   rw [show (k:Int).toNat=k by omega]
   exact (List.drop_eq_getElem_cons hl)
  rw [hd] at hq
  dsimp only [fIt,Fr.satP]
  rw [g1,hw]
  refine ⟨⟨by omega,by omega⟩,fun hb=>?_,fun hb=>?_⟩
  ·have:qdq (fun n=>(g (n,())).1) (l[k] :: l.drop (k+1)) k=some (k:Int):=if_pos hb
   rw [this] at hq
   exact hq.1 rfl
  ·have hb':¬ (g (l[k],())).1=true:=by rw [hb]; decide
   have:qdq (fun n=>(g (n,())).1) (l[k] :: l.drop (k+1)) k=qdq (fun n=>(g (n,())).1) (l.drop (k+1)) (k+1):=if_neg hb'
   rw [this] at hq
   have hI:qxm l l.length ((k:Int)+1):=⟨by omega,by omega,rfl,h4⟩
   refine ⟨hI,by omega,hI,?_⟩
   rw [show ((k:Int)+1).toNat=k+1 by omega]
   exact hq
 ·have hi':¬ i < (l.length:Int):=of_decide_eq_false hi
  have e:l.drop i.toNat=[]:=List.drop_eq_nil_of_le (by omega)
  rw [e] at hq
  exact hq.2 rfl
theorem zkx {p:Program} {b:Code} (T:Ty) (sem:qe p b (MIt T) (qs0 T) (fIt T)):qe p (.loop b) (MIt T) (qs0 T) (FIt T):=by
 refine qe.loop (n:=19) (id:=0) sem (inv:=fun x=>qxm x.1.1 x.1.2.2.1 x.1.2.2.2.1) (μ:=fun x=>(x.1.2.2.1 - x.1.2.2.2.1).toNat) ?_ (fun x Q h=>h.1)
 rintro ⟨⟨l,g,n,i,_⟩,_⟩ hinv Q hq
 exact ypr T l g n i hinv Q hq.2
def qkb {α:Type} (g:α->Bool) (l:List α):Int:=(qdq g l 0).getD (-1)
def qdc (T:Ty):Ct:=⟨[.d (.sl T),fnT T],[i64],fun x=>(qkb (fun n=>(x.2.1 (n,())).1) x.1,()),fun _=>[]⟩
def zjx (T:Ty) (x:qm [.d (.sl T),fnT T]):Fr (qi [i64]):=Fr.need (qxm x.1 x.1.length 0) (Fr.br (qdq (fun n=>(x.2.1 (n,())).1) x.1 0).isSome (Fr.val ((qdq (fun n=>(x.2.1 (n,())).1) x.1 0).getD (-1),())) (Fr.val (-1,())))
theorem itC {p:Program} {f:FuncId} {T:Ty} (h:qa p f ⟨[.d (.sl T),fnT T],[i64],fun x=>(zjx T x).get,fun x=>[(zjx T x).ok]⟩):qa p f (qdc T):=
 conv h _ _ (fun w F x vs hr _=>by
  obtain ⟨l,g,_⟩:=x
  obtain ⟨v,vs',rfl,hv,_⟩:=hr
  have hlen:(l.length:Int)<=9223372036854775807:=qcg hv
  have hI:qxm l l.length 0:=⟨by omega,by omega,rfl,hlen⟩
  refine Fr.need_ hI ?_
  cases hf:qdq (fun n=>(g (n,())).1) l 0 with
  |some k=>exact Fr.br_t rfl ⟨trivial,by show (k,())=_; unfold qkb; rw [hf]; rfl⟩
  |none=>exact Fr.br_f rfl ⟨trivial,by show ((-1:Int),())=_; unfold qkb; rw [hf]; rfl⟩)
theorem zjr {α:Type} (g:α->Bool):(l:List α)->(i:Int)->0<=i->decide ((qdq g l i).getD (-1) ≥ 0)=l.any g
 |[],_,_=>rfl
 |x :: r,i,h=>by
  unfold qdq
  simp only [List.any_cons]
  split
  ·rename_i hx
   rw [hx]
   simp [h]
  ·rename_i hx
   rw [zjr g r (i+1) (by omega)]
   simp [hx]
theorem zkm {α:Type} (g:α->Bool) (l:List α):decide (0<=qkb g l)=l.any g:=zjr g l 0 (by omega)
theorem zjq {α:Type} (g:α->Bool):(l:List α)->(i k:Int)->qdq g l i=some k->i<=k/\k < i+l.length/\∃ x,l[(k - i).toNat]? = some x/\g x=true
 |[],_,_,h=>nomatch h
 |x :: r,i,k,h=>by
  unfold qdq at h
  split at h
  ·rename_i hx
   cases h
   exact ⟨by omega,by simp only [List.length_cons]; omega,x,by rw [show (i - i).toNat=0 by omega]; rfl,hx⟩
  ·obtain ⟨h1,h2,y,h3,h4⟩:=zjq g r (i+1) k h
   refine ⟨by omega,by simp only [List.length_cons]; omega,y,?_,h4⟩
   rw [show (k - i).toNat=(k - (i+1)).toNat+1 by omega]
   exact h3
theorem qq7 {α:Type} {g:α->Bool} {l:List α} (h:0<=qkb g l):qkb g l < l.length/\∃ x,l[(qkb g l).toNat]? = some x/\g x=true:=by
 unfold qkb at h ⊢
 cases hf:qdq g l 0 with
 |none=>rw [hf] at h; exact absurd h (by decide)
 |some k=>
  obtain ⟨h1,h2,x,h3,h4⟩:=zjq g l 0 k hf
  rw [Option.getD_some]
  exact ⟨by omega,x,by simpa using h3,h4⟩
def qrp (T:Ty):Ct:=⟨[.d (.sl T),fnT T],[.bool],fun x=>(x.1.any (fun n=>(x.2.1 (n,())).1),()),fun _=>[]⟩
noncomputable def CS5:Cx:=cx [] []
theorem qix:CxOK Tryz.prog CS5:=zb (cs:=[]) (ps:=[]) qv trivial trivial
theorem zpg:qa Tryz.prog 80 (qdc ze):=
 itC (qg qix (Λ:=fun _=>(qs0 ze).han CS5.Γ (MIt ze) (FIt ze)) (fn:=Tryz.f80) (ps:=[.d (.sl ze),fnT ze]) (rs:=[i64]) (fr:=zjx ze) ([],fun _=>(false,()),()) (by kernel_rfl)
  (fun c E hc=>yz hc (by kernel_rfl) (b:=qo Tryz.f80 0) (by kernel_rfl) (qe.han qix rfl (zkx ze (qe.of_run qix (bs:=0) rfl rfl rfl (fun _=>qd _ 0) (fun x=>by kernel_rfl))))) (fun x=>by kernel_rfl))
theorem zcs:qa Tryz.prog 93 (qdc qr):=
 itC (qg qix (Λ:=fun _=>(qs0 qr).han CS5.Γ (MIt qr) (FIt qr)) (fn:=Tryz.f93) (ps:=[.d (.sl qr),fnT qr]) (rs:=[i64]) (fr:=zjx qr) ([],fun _=>(false,()),()) (by kernel_rfl)
  (fun c E hc=>yz hc (by kernel_rfl) (b:=qo Tryz.f93 0) (by kernel_rfl) (qe.han qix rfl (zkx qr (qe.of_run qix (bs:=0) rfl rfl rfl (fun _=>qd _ 0) (fun x=>by kernel_rfl))))) (fun x=>by kernel_rfl))
theorem zph:qa Tryz.prog 301 (qdc qf):=
 itC (qg qix (Λ:=fun _=>(qs0 qf).han CS5.Γ (MIt qf) (FIt qf)) (fn:=Tryz.f301) (ps:=[.d (.sl qf),fnT qf]) (rs:=[i64]) (fr:=zjx qf) ([],fun _=>(false,()),()) (by kernel_rfl)
  (fun c E hc=>yz hc (by kernel_rfl) (b:=qo Tryz.f301 0) (by kernel_rfl) (qe.han qix rfl (zkx qf (qe.of_run qix (bs:=0) rfl rfl rfl (fun _=>qd _ 0) (fun x=>by kernel_rfl))))) (fun x=>by kernel_rfl))
noncomputable def yq3:Cx:=cx [(93,qdc qr)] []
theorem ygo:CxOK Tryz.prog yq3:=zb (cs:=[(93,qdc qr)]) (ps:=[]) qv ⟨zcs,trivial⟩ trivial
theorem ygw:qa Tryz.prog 268 (qrp qr):=
 conv (qg ygo (Λ:=qp) (fn:=Tryz.f268) (fr:=fun x=>Fr.val (decide (qkb (fun n=>(x.2.1 (n,())).1) x.1 ≥ 0),())) (ps:=[.d (.sl qr),fnT qr]) (rs:=[.bool]) ([],fun _=>(false,()),()) (by kernel_rfl) (fun c E _=>qd c 0) (fun x=>by kernel_rfl)) _ _
  (fun _ _ x _ _ _=>⟨trivial,Prod.ext (zkm _ x.1) rfl⟩)
noncomputable def yq4:Cx:=cx [(301,qdc qf)] []
theorem ygp:CxOK Tryz.prog yq4:=zb (cs:=[(301,qdc qf)]) (ps:=[]) qv ⟨zph,trivial⟩ trivial
theorem zot:qa Tryz.prog 297 (qrp qf):=
 conv (qg ygp (Λ:=qp) (fn:=Tryz.f297) (fr:=fun x=>Fr.val (decide (qkb (fun n=>(x.2.1 (n,())).1) x.1 ≥ 0),())) (ps:=[.d (.sl qf),fnT qf]) (rs:=[.bool]) ([],fun _=>(false,()),()) (by kernel_rfl) (fun c E _=>qd c 0) (fun x=>by kernel_rfl)) _ _
  (fun _ _ x _ _ _=>⟨trivial,Prod.ext (zkm _ x.1) rfl⟩)
end Go.Proofs.YtgieagiaagoogaaGreat
namespace Go.Ab
open Go Go.RowKit
def yns (pc:Pc):Ct:=⟨pc.ps,pc.rs,pc.f,fun x=>(pc.bad x=false) :: pc.ok x⟩
def gP (C:Cx) (f:FuncId):Option Ct:=match C.Γ f with
 |some ct=>some ct
 |none=>(C.Pi f).map yns
structure Pan where
 bad:Bool
 pv:PV
 good:List Prop
def qhx (C:Cx) (o:Oper) (sl:Nat->AV):Option Pan:=
 match o.guard,o.op,o.op.operands.toList.map (evA sl) with
 |none,.call ⟨.value _,_,_⟩,.c (.fn f caps) :: args=>match C.Pi f with
  |some pc=>match qcc (fun _=>none) (args++caps.map .c) with
   |some (xs,[])=>match qi6 C.Γ pc.ps xs with
    |some (x,n)=>some ⟨pc.bad x,pc.pv x,n++pc.ok x⟩
    |none=>none
   |_=>none
  |none=>none
 |_,_,_=>none
def qgh (P:Program) (C:Cx) (b:Nat) (ops:List Oper):List Oper->St->Option (List (Ef × Option Pan) × St)
 |[],s=>some ([],s)
 |o :: r,s=>match qah P (gP C) b ops o s.sl s.mem with
  |some e=>match qgh P C b ops r (e.go s) with
   |some (es,s')=>some ((e,qhx C o s.sl) :: es,s')
   |none=>none
  |none=>none
def zsu (pv:PV):Ef × Option Pan->List Prop
 |(e,none)=>e.need
 |(e,some p)=>[p.bad=false->qq e.need,p.bad=true->qq p.good/\p.pv=pv]
def zut (d:St) (all:List (Ef × Option Pan)) (good:Tr):List Pan->Tr
 |[]=>good
 |p :: r=>.br p.bad (needL (all.flatMap (zsu p.pv)) (.leaf (.panic p.pv) d)) (zut d all good r)
def zu0 (ops:List Oper) (es:List (Ef × Option Pan)):Bool:=
 let ms:=xc [] ops
 (List.range es.length).all fun k=>match es[k]?,ms[k]? with
  |some (f,_),some mask=>f.wr.isEmpty || (List.range es.length).all fun i=>match es[i]? with
   |some (_,some _)=>mask.testBit i
   |_=>true
  |_,_=>false
def qq0 (ops:List Oper) (es:List (Ef × Option Pan)):List Tmp:=
 let ms:=xc [] ops
 (List.range es.length).filterMap fun k=>match es[k]?,ms[k]? with
  |some (f,_),some mask=>if (List.range es.length).all (fun i=>match es[i]? with
   |some (_,some _)=>mask.testBit i
   |_=>true) then none else f.dst
  |_,_=>none
def zae (D:List Tmp) (sl:Nat->AV) (t:Tmp):AV:=if D.contains t then .dead else clr sl t
def zc7 (P:Program) (C:Cx) (b:Nat) (ops:List Oper) (s:St):Option Tr:=
 if qly s.n 0 [] ops then match qgh P C b ops ops s with
  |some (es,s')=>if qkh ops (es.map (·.1))=true/\zu0 ops es=true then
    some (zut ⟨s.n,zae (qq0 ops es) s.sl,s.mem,s.gs⟩ es (zg0 (es.map (·.1)) (.leaf .normal (qh6 s'))) (es.filterMap (·.2)))
   else none
  |none=>none
 else none
section
variable {P:Program} {w w':World} {E:Env} {F F':Nat->Prop} {b:Nat} {γ γ' γ0:Nat->Value} {ops:Array Oper} {es:List (Ef × Option Pan)} {C:Cx}
theorem ypk (hC:CxOK P C):∀ f ct,gP C f=some ct->qa P f ct:=by
 intro f ct h
 unfold gP at h
 split at h
 ·rename_i ct' hct
  cases h
  exact hC.ct.1 f _ hct
 ·cases hp:C.Pi f with
  |none=>rw [hp] at h; cases h
  |some pc=>
   rw [hp] at h
   cases h
   obtain ⟨h1,h2⟩:=hC.pc f pc hp
   refine ⟨h1,fun w F xs vs hb hr hok=>?_⟩
   obtain ⟨hbad,hok⟩:pc.bad xs=false/\qq (pc.ok xs):=xw.1 hok
   refine (h2 w F xs vs hb hr hok).mono fun e w' h=>?_
   rcases h with h | h
   ·exact h.2
   ·rw [hbad] at h
    cases h.1
theorem zn8 {o:Oper} {sl sl':Nat->AV} (h:∀ t ∈ qrh o.op,sl' t=sl t):qhx C o sl'=qhx C o sl:=by
 unfold qhx
 rw [zdz h]
theorem qxf {o:Oper} {sl:Nat->AV} (h:o.guard ≠ none):qhx C o sl=none:=by
 unfold qhx
 split
 ·rename_i hg _ _
  exact absurd hg h
 ·rfl
theorem ymj {Γ:Gm} {o:Oper} {opl:List Oper} {sl:Nat->AV} {m:Mem} {e:Ef} (he:qah P Γ b opl o sl m=some e) (hg:o.guard=none):e.rd=qrh o.op:=by
 unfold qah at he
 rw [hg] at he
 simp only at he
 split at he<;>try (cases he; done)
 simp only [Option.some.injEq] at he
 subst he
 rfl
theorem zlf {Γ:Gm} {o:Oper} {opl:List Oper} {e f:Ef} {s:St} (hf:qah P Γ b opl o s.sl s.mem=some f) (hd:∀ t,e.dst=some t->t ∉ f.rd):qhx C o (e.go s).sl=qhx C o s.sl:=by
 cases hg:o.guard with
 |some g=>rw [qxf (by rw [hg]; simp),qxf (by rw [hg]; simp)]
 |none=>
  refine zn8 fun t ht=>?_
  show qdg s.sl e.dst e.v t=s.sl t
  rw [← ymj hf hg] at ht
  cases hx:e.dst with
  |none=>rfl
  |some x=>
   have hne:t ≠ x:=fun htx=>hd x hx (htx ▸ ht)
   exact if_neg hne
def qv1 (P:Program) (C:Cx) (b:Nat) (ops:Array Oper) (es:List (Ef × Option Pan)) (s':St):List Nat->St->Prop
 |[],s=>s=s'
 |i :: r,s=>∃ o e p,ops[i]? = some o/\es[i]? = some (e,p)/\qah P (gP C) b ops.toList o s.sl s.mem=some e/\qhx C o s.sl=p/\qv1 P C b ops es s' r (e.go s)
theorem zlx {s':St}:(l:List Oper)->(k:Nat)->(s:St)->(fs:List (Ef × Option Pan))->qgh P C b ops.toList l s=some (fs,s')->(∀ i o,l[i]? = some o->ops[k+i]? = some o) ->
  (∀ i e,fs[i]? = some e->es[k+i]? = some e)->qv1 P C b ops es s' (List.range' k l.length) s
 |[],k,s,fs,h,_,_=>by
  simp only [qgh,Option.some.injEq,Prod.mk.injEq] at h
  exact h.2
 |o :: r,k,s,fs,h,ho,he=>by
  simp only [qgh] at h
  split at h<;>try (cases h; done)
  rename_i e heff
  split at h<;>try (cases h; done)
  rename_i es' s2 hr
  simp only [Option.some.injEq,Prod.mk.injEq] at h
  obtain ⟨rfl,rfl⟩:=h
  refine ⟨o,e,_,by simpa using ho 0 o rfl,by simpa using he 0 _ rfl,heff,rfl,?_⟩
  refine zlx r (k+1) _ es' hr (fun i o' hi=>?_) (fun i e' hi=>?_)
  ·have:=ho (i+1) o' (by simpa using hi)
   rwa [show k+1+i=k+(i+1) by omega]
  ·have:=he (i+1) e' (by simpa using hi)
   rwa [show k+1+i=k+(i+1) by omega]
theorem zlv {opl:List Oper}:(l:List Oper)->(s:St)->(fs:List (Ef × Option Pan))->(s':St)->qgh P C b opl l s=some (fs,s')->s'.n=s.n
 |[],s,fs,s',h=>by
  simp only [qgh,Option.some.injEq,Prod.mk.injEq] at h
  rw [h.2]
 |o :: r,s,fs,s',h=>by
  simp only [qgh] at h
  split at h<;>try (cases h; done)
  split at h<;>try (cases h; done)
  rename_i es' s2 hr
  simp only [Option.some.injEq,Prod.mk.injEq] at h
  obtain ⟨rfl,rfl⟩:=h
  exact (zlv r _ es' _ hr).trans rfl
theorem qto {opl:List Oper}:(l:List Oper)->(s:St)->(fs:List (Ef × Option Pan))->(s':St)->qgh P C b opl l s=some (fs,s')->fs.length=l.length
 |[],s,fs,s',h=>by
  simp only [qgh,Option.some.injEq,Prod.mk.injEq] at h
  rw [← h.1]
  rfl
 |o :: r,s,fs,s',h=>by
  simp only [qgh] at h
  split at h<;>try (cases h; done)
  split at h<;>try (cases h; done)
  rename_i es' s2 hr
  simp only [Option.some.injEq,Prod.mk.injEq] at h
  obtain ⟨rfl,rfl⟩:=h
  simp [qto r _ es' _ hr]
theorem zw1 {s':St} {j:Nat}:(rem:List Nat)->(s:St)->qv1 P C b ops es s' rem s->rem.Pairwise (· < ·)->j ∈ rem ->
  (∀ i ∈ rem,i < j->∀ e f,es[i]? = some e->es[j]? = some f->qgz e.1 f.1=true) ->
  ∃ o f p,ops[j]? = some o/\es[j]? = some (f,p)/\qah P (gP C) b ops.toList o s.sl s.mem=some f/\qhx C o s.sl=p/\qv1 P C b ops es s' (rem.erase j) (f.go s)
 |[],_,_,_,hj,_=>by simp at hj
 |i :: r,s,hr,hp,hj,hi=>by
  obtain ⟨o,e,p,ho,he,heff,hpan,hr'⟩:=hr
  by_cases hij:i=j
  ·subst hij
   refine ⟨o,e,p,ho,he,heff,hpan,?_⟩
   rw [List.erase_cons_head]
   exact hr'
  ·have hjr:j ∈ r:=by
    rcases List.mem_cons.1 hj with h | h
    ·exact absurd h.symm hij
    ·exact h
   have hlt:i < j:=(List.pairwise_cons.1 hp).1 j hjr
   obtain ⟨oj,f,pj,hoj,hfj,hf,hpj,hrr⟩:=zw1 r (e.go s) hr' (List.pairwise_cons.1 hp).2 hjr (fun k hk hkj=>hi k (List.mem_cons_of_mem _ hk) hkj)
   have hind:qgz e f=true:=hi i (by simp) hlt _ _ he hfj
   have hsp:=qmq hind
   have hfs:=ziz hind hf
   refine ⟨oj,f,pj,hoj,hfj,hfs,(zlf hfs (fun t ht=>(hsp.1 t ht).1)).symm.trans hpj,?_⟩
   rw [List.erase_cons_tail (by simpa using hij)]
   refine ⟨o,e,p,ho,he,zdu hind heff,(zlf heff (fun t ht=>hsp.2.1 t ht)).trans hpan,?_⟩
   rw [← zpf hind]
   exact hrr
theorem zx6 (hC:CxOK P C) {o:Oper} {st:St} {a:Act} {W:List Tmp} {p:Pan} (hi:InvG P E st a w W F γ) (h:qhx C o st.sl=some p) (hb:p.bad=true) (hn:qq p.good) (K:Act->World->Prop) (Q:Exit->Act->World->Prop)
  (hq:∀ w',I P E (qh6 st) a w'->Q (.panic [{ v:=p.pv.val,recovered:=false }]) a w'):o.guard=none/\o.wp P a w K Q:=by
 unfold qhx at h
 split at h<;>try (cases h; done)
 rename_i f0 cargs ts f caps args hg ho hvs
 refine ⟨hg,?_⟩
 split at h<;>try (cases h; done)
 rename_i pc hpc
 split at h<;>try (cases h; done)
 rename_i xs hrs
 split at h<;>try (cases h; done)
 rename_i x n hdec
 simp only [Option.some.injEq] at h
 subst h
 obtain ⟨hn1,hn2⟩:=xg.1 hn
 have hev:=qj7 hi.sl o.op.operands.toList
 rw [hvs] at hev
 have hops:o.op.operands.toList.map a.eval=a.eval f0 :: (cargs.map a.eval).toList:=by simp [ho,Op.operands,Call.operands]
 rw [hops] at hev
 obtain ⟨⟨_,hfv⟩,hargs⟩:=hev
 obtain ⟨cv,e1,e2,e3⟩:=hfv
 have hcaps:=zdr e2 e3
 have hrun:(∀ args w,(callFunc f args).run P w = .ok (.enter f args) w)->(execOp a.eval o).run P w = .ok (.enter f (cargs.map a.eval++cv)) w:=fun hen=>by
  unfold execOp
  rw [ho]
  simp [resolve,e1,Deferred.ofValue,invoke,hen]
 have harr:((cargs.map a.eval).toList++cv.toList).toArray=cargs.map a.eval++cv:=by simp
 have hall:(args++caps.map AV.c).all nmA=true:=by
  have:∀ (l:List AV),(∃ xs u',qcc (fun _=>none) l=some (xs,u'))->l.all nmA=true:=by
   intro l
   induction l with
   |nil=>intros; rfl
   |cons y l ih=>
    rintro ⟨xs,u',hx⟩
    simp only [qcc] at hx
    split at hx<;>try (cases hx; done)
    rename_i h1 h2
    simp only [List.all_cons,Bool.and_eq_true]
    refine ⟨?_,ih ⟨_,_,h2⟩⟩
    cases y<;>first | rfl | (simp [rsA] at h1)
  exact this _ ⟨_,_,hrs⟩
 have hargs':zq P w F (qn st.mem γ) (args++caps.map AV.c) ((cargs.map a.eval).toList++cv.toList):=by
  refine qk4 (qk3 hargs ?_) hcaps
  rw [List.all_append,Bool.and_eq_true] at hall
  exact hall.1
 obtain ⟨F1,s1,m1,_,r1⟩:=ws hi.mem (ke hi) (qa1.of fun _ _ h=>by cases h) hrs hargs'
 have hps:=qf0 hC.ct hdec hn1 r1
 obtain ⟨hen,hcalls⟩:=hC.pc f pc hpc
 have hc:=hcalls w F1 x _ s1.bd hps hn2
 unfold Oper.wp
 rw [hrun hen]
 show Calls P f (cargs.map a.eval++cv) w _
 rw [harr] at hc
 have hb':pc.bad x=true:=hb
 refine hc.mono fun e w2 hp=>?_
 rcases hp with ⟨hbad,_⟩ | ⟨hbad,rfl,hbel⟩
 ·rw [hb'] at hbad
  cases hbad
 ·refine hq w2 ⟨F1,γ,?_⟩
  obtain ⟨s2,m2⟩:=Step.below m1 (Step.size' hi) s1.bd hbel (F':=F1) (fun _ h=>h) (fun b hb=>⟨.inl hb,Nat.lt_of_lt_of_le (s1.bd b hb) hbel.size⟩)
  have s3:=s1.trans s2
  obtain ⟨γ0,h0⟩:=hi.step
  exact qim (W:=W) ⟨hi.n,hi.df,⟨γ0,h0.trans s3⟩,m2,fun t=>(hi.sl t).mono s3.hF s3.hw s3.hR,hi.hg,fun t=>s3.repA (hi.gh t)⟩
theorem ycf {st:St} {a:Act} {D:List Tmp} {s0:St} (h:InvG P E (qh6 st) a w [] F γ) (hs:∀ t,t ∉ D->st.sl t=s0.sl t):InvG P E ⟨st.n,zae D s0.sl,st.mem,st.gs⟩ a w [] F γ:=by
 refine ⟨h.n,h.df,h.step,h.mem,fun t=>?_,fun t g want v ht=>?_,h.gh⟩
 ·show vr P w F _ _ (if D.contains t then AV.dead else clr s0.sl t) _
  split
  ·trivial
  ·rename_i hd
   have hd':t ∉ D:=fun hm=>hd (by simpa using hm)
   have e:clr s0.sl t=clr st.sl t:=by
    unfold clr
    rw [hs t hd']
   rw [e]
   exact h.sl t
 ·have ht':(if D.contains t then AV.dead else clr s0.sl t) = .maybe g want v:=ht
  split at ht'
  ·cases ht'
  ·rename_i hd
   have hd':t ∉ D:=fun hm=>hd (by simpa using hm)
   have e:clr s0.sl t=clr st.sl t:=by
    unfold clr
    rw [hs t hd']
   rw [e] at ht'
   exact h.hg t g want v ht'
def zf5 (pv:PV) (x:Ef × Option Pan):Prop:=match x.2 with
 |none=>qq x.1.need
 |some p=>(p.bad=false->qq x.1.need)/\(p.bad=true->qq p.good/\p.pv=pv)
theorem yb1 {pv:PV} {x:Ef × Option Pan} (h:qq (zsu pv x)):zf5 pv x:=by
 obtain ⟨e,p⟩:=x
 cases p with
 |none=>exact h
 |some p=>exact ⟨h.1,h.2⟩
def zbv (P:Program) (E:Env) (C:Cx) (b:Nat) (ops:Array Oper) (es:List (Ef × Option Pan)) (D:List Tmp) (s0 s':St) (rem:List Nat) (a:Act) (w:World):Prop:=
 ∃ st W F γ,InvG P E st a w W F γ/\(∀ t,t ∈ W↔∃ k o,ops[k]? = some o/\k ∉ rem/\o.dst=some t)/\qv1 P C b ops es s' rem st/\st.n=s'.n/\st.gs=s0.gs /\
  (∀ (k:Nat) e p,es[k]? = some (e,some p)->k ∉ rem->p.bad=false)/\((∃ k:Nat,∃ e p,k ∈ rem/\es[k]? = some (e,some p))->st.mem=s0.mem/\∀ t,t ∉ D->st.sl t=s0.sl t)
theorem zyd (hC:CxOK P C) {D:List Tmp} {s0 s':St} {rem:List Nat} {a:Act} (hi:zbv P E C b ops es D s0 s' rem a w) {j:Nat} (hj:j ∈ rem) (hp:rem.Pairwise (· < ·))
  (hfront:∀ i ∈ rem,i < j->∀ e f,es[i]? = some e->es[j]? = some f->qgz e.1 f.1=true) (hguard:∀ o j' want,ops[j]? = some o->o.guard=some (j',want)->j' ∉ rem) (hst:StatOK s'.n ops)
  {pv:PV} (hgood:∀ (i:Nat) x,es[i]? = some x->zf5 pv x) (hwr:∀ f p,es[j]? = some (f,p)->(f.wr ≠ [] ∨ ∃ t,f.dst=some t/\t ∉ D)->∀ (k:Nat) e q,es[k]? = some (e,some q)->k ∉ rem) (hn0:s0.n=s'.n)
  (K:Act->World->Prop) (Q:Exit->Act->World->Prop) (hK:∀ a' w',zbv P E C b ops es D s0 s' (rem.erase j) a' w'->K a' w')
  (hQ:(∃ k:Nat,∃ e p,es[k]? = some (e,some p)/\p.bad=true)->∀ a' w',I P E ⟨s0.n,zae D s0.sl,s0.mem,s0.gs⟩ a' w'->Q (.panic [{ v:=pv.val,recovered:=false }]) a' w'):wpOp P ops Q j K a w:=by
 obtain ⟨st,W,F,γ,hinv,hW,hruns,hn,hgs,hdone,hmem⟩:=hi
 obtain ⟨o,f,p,ho,hf,heff,hpan,hr⟩:=zw1 rem st hruns hp hj hfront
 have hnd:rem.Nodup:=qhn hp
 have hmemE:∀ k,k ∉ rem.erase j↔k=j ∨ k ∉ rem:=fun k=>by
  rw [hnd.mem_erase_iff]
  constructor
  ·intro h
   by_cases hk:k=j
   ·exact .inl hk
   ·exact .inr fun h'=>h ⟨hk,h'⟩
  ·rintro (h | h) ⟨h1,h2⟩
   ·exact h1 h
   ·exact h h2
 unfold wpOp
 rw [ho]
 simp only
 have hg:=hgood j _ hf
 by_cases hbad:∃ q,p=some q/\q.bad=true
 ·obtain ⟨q,rfl,hq⟩:=hbad
  obtain ⟨hgq,hpv⟩:=hg.2 hq
  have hm0:=hmem ⟨j,f,q,hj,hf⟩
  have key:=zx6 hC (K:=K) (Q:=Q) hinv hpan hq hgq (fun w' hiw=>by
   rw [hpv]
   refine hQ ⟨j,f,q,hf,hq⟩ a w' ?_
   obtain ⟨F1,γ1,hiw⟩:=hiw
   rw [hn0,← hn,← hm0.1,← hgs]
   exact ⟨F1,γ1,ycf hiw hm0.2⟩)
  have hw:Region.wanted o (yielded ops a.tmps)=true:=by simp [Region.wanted,key.1]
  rw [if_pos hw]
  exact .inl key.2
 ·have hneed:qq f.need:=by
   cases p with
   |none=>exact hg
   |some q=>
    refine hg.1 ?_
    cases hq:q.bad with
    |false=>rfl
    |true=>exact absurd ⟨q,rfl,hq⟩ hbad
  have key:=zc2 (Γ:=⟨gP C,fun _=>none⟩) ⟨ypk hC,fun _ _ h=>(nomatch h)⟩ (ops:=ops) hinv heff hneed (fun x hx=>⟨by rw [hn]; exact hst.lt j o x ho hx,fun hxW=>by
    obtain ⟨k,ok,hok,hk,hd⟩:=(hW x).1 hxW
    have:=hst.once j k o ok x ho hok hx hd
    subst this
    exact hk hj⟩)
   (fun j' want g hg hd=>by
    have h1:=hguard o j' want ho hg
    cases ho':ops[j']? with
    |none=>rw [ho'] at hd; cases hd
    |some o'=>
     rw [ho'] at hd
     exact (hW g).2 ⟨j',o',ho',h1,hd⟩)
   K Q (fun a' w' F' γ' hinv'=>hK a' w' ⟨f.go st,_,F',γ',hinv',fun t=>?_,hr,hn,hgs,fun k e q hk hkr=>?_,fun hex=>?_⟩)
  ·split
   ·rename_i hw
    rw [if_pos hw] at key
    exact .inl key
   ·rename_i hw
    rw [if_neg hw] at key
    exact key
  ·rw [List.mem_append,hW]
   constructor
   ·rintro (h | ⟨k,ok,h1,h2,h3⟩)
    ·exact ⟨j,o,ho,(hmemE j).2 (.inl rfl),by simpa using h⟩
    ·exact ⟨k,ok,h1,(hmemE k).2 (.inr h2),h3⟩
   ·rintro ⟨k,ok,h1,h2,h3⟩
    rcases (hmemE k).1 h2 with rfl | h
    ·rw [ho] at h1
     cases h1
     exact .inl (by simp [h3])
    ·exact .inr ⟨k,ok,h1,h,h3⟩
  ·rcases (hmemE k).1 hkr with rfl | h
   ·rw [hf] at hk
    cases hk
    cases hq:q.bad with
    |false=>rfl
    |true=>exact absurd ⟨q,rfl,hq⟩ hbad
   ·exact hdone k e q hk h
  ·obtain ⟨k,e,q,hk,hke⟩:=hex
   have hkr:=List.mem_of_mem_erase hk
   have hm0:=hmem ⟨k,e,q,hkr,hke⟩
   refine ⟨?_,fun t ht=>?_⟩
   ·show qx st.mem f.wr=s0.mem
    have hnil:f.wr=[]:=by
     apply Classical.byContradiction
     intro hne
     exact hwr f p hf (.inl hne) k e q hke hkr
    rw [hnil]
    exact hm0.1
   ·show qdg st.sl f.dst f.v t=s0.sl t
    rw [← hm0.2 t ht]
    cases hx:f.dst with
    |none=>rfl
    |some x=>
     have hne:t ≠ x:=fun htx=>by
      subst htx
      exact hwr f p hf (.inr ⟨t,hx,ht⟩) k e q hke hkr
     exact if_neg hne
theorem zzm (h:zu0 ops.toList es=true) {j:Nat} {f:Ef} {p:Option Pan} (hj:es[j]? = some (f,p)) (hne:f.wr ≠ []) {k:Nat} {e:Ef} {q:Pan} (hk:es[k]? = some (e,some q)):((xc [] ops.toList).getD j 0).testBit k=true:=by
 unfold zu0 at h
 rw [List.all_eq_true] at h
 have hjl:=(List.getElem?_eq_some_iff.1 hj).1
 have hkl:=(List.getElem?_eq_some_iff.1 hk).1
 have h1:=h j (List.mem_range.2 hjl)
 rw [hj] at h1
 split at h1
 ·rename_i f' p' mask hf' hm
  simp only [Option.some.injEq,Prod.mk.injEq] at hf'
  obtain ⟨rfl,rfl⟩:=hf'
  rw [Bool.or_eq_true] at h1
  rcases h1 with h1 | h1
  ·exact absurd (by simpa using h1) hne
  ·rw [List.all_eq_true] at h1
   have h2:=h1 k (List.mem_range.2 hkl)
   rw [hk] at h2
   rw [List.getD_eq_getElem?_getD,hm]
   exact h2
 ·cases h1
theorem zrw {j:Nat} {f:Ef} {p:Option Pan} {t:Tmp} (hj:es[j]? = some (f,p)) (hd:f.dst=some t) (ht:t ∉ qq0 ops.toList es) {mask:Nat} (hm:(xc [] ops.toList)[j]? = some mask) {k:Nat} {e:Ef} {q:Pan} (hk:es[k]? = some (e,some q)):mask.testBit k=true:=by
 apply Classical.byContradiction
 intro hn
 apply ht
 have hjl:=(List.getElem?_eq_some_iff.1 hj).1
 have hkl:=(List.getElem?_eq_some_iff.1 hk).1
 refine List.mem_filterMap.2 ⟨j,List.mem_range.2 hjl,?_⟩
 rw [hj,hm]
 show (if _ then none else f.dst)=some t
 rw [if_neg,hd]
 intro hall
 rw [List.all_eq_true] at hall
 have:=hall k (List.mem_range.2 hkl)
 rw [hk] at this
 exact hn this
theorem zlp (hC:CxOK P C) {D:List Tmp} (hD:D=qq0 ops.toList es) {s0 s':St} (hst:StatOK s'.n ops) (hord:qkh ops.toList (es.map (·.1))=true) (hwro:zu0 ops.toList es=true) {pv:PV} (hgood:∀ (i:Nat) x,es[i]? = some x->zf5 pv x) (hn0:s0.n=s'.n) (Q:Exit->Act->World->Prop)
  (hQ:∀ a w,zbv P E C b ops es D s0 s' [] a w->Q .normal a w)
  (hQp:(∃ k:Nat,∃ e p,es[k]? = some (e,some p)/\p.bad=true)->∀ a' w',I P E ⟨s0.n,zae D s0.sl,s0.mem,s0.gs⟩ a' w'->Q (.panic [{ v:=pv.val,recovered:=false }]) a' w') :
  (fuel:Nat)->∀ (rem:List Nat) (listed:Array Bool) (a:Act) (w:World),rem.length<=fuel->rem.Pairwise (· < ·)->listed.size=ops.size->(∀ i,i < ops.size->(listed.getD i true=false↔i ∈ rem))->(∀ i ∈ rem,i < ops.size) ->
   (∀ k,k < ops.size->k ∉ rem->∀ i,((xc [] ops.toList).getD k 0).testBit i=true->i ∉ rem)->zbv P E C b ops es D s0 s' rem a w->wpAny P .any ops Q fuel listed a w
 |fuel,[],listed,a,w,_,_,hsz,hl,_,_,hi=>by
  have hnil:Region.ready .any ops listed=[]:=by
   apply List.eq_nil_iff_forall_not_mem.2
   intro i hmem
   obtain ⟨h1,o,ho,_⟩:=mem_ready.1 hmem
   have hlt:=(Array.getElem?_eq_some_iff.1 ho).1
   simpa using (hl i hlt).1 h1
  cases fuel with
  |zero=>exact ⟨hnil,hQ a w hi⟩
  |succ fuel=>exact ⟨fun _=>hQ a w hi,fun i hmem=>by rw [hnil] at hmem; simp at hmem⟩
 |0,i :: r,_,_,_,hlen,_,_,_,_,_,_=>by simp at hlen
 |fuel+1,i :: r,listed,a,w,hlen,hp,hsz,hl,hlt,hmask,hi=>by
  have hready:i ∈ Region.ready .any ops listed:=by
   have hio:=hlt i (by simp)
   refine mem_ready.2 ⟨(hl i hio).2 (by simp),ops[i],by simp [hio],fun e he hb=>?_⟩
   have hback:=hst.back i ops[i] (by simp [hio]) e he hb
   have hnot:e.on ∉ i :: r:=fun hh=>by
    rcases List.mem_cons.1 hh with h | h
    ·omega
    ·have:=(List.pairwise_cons.1 hp).1 _ h
     omega
   have h1:¬ listed.getD e.on true=false:=fun h=>hnot ((hl e.on (by omega)).1 h)
   have hsz':e.on < listed.size:=by omega
   simp only [Array.getD_eq_getD_getElem?,Array.getElem?_eq_getElem hsz',Option.getD_some] at h1 ⊢
   simpa using h1
  refine ⟨fun hnil=>by rw [hnil] at hready; simp at hready,fun j hj=>?_⟩
  obtain ⟨hj1,o,ho,hjall⟩:=mem_ready.1 hj
  have hjlt:=(Array.getElem?_eq_some_iff.1 ho).1
  have hjrem:=(hl j hjlt).1 hj1
  have hlisted:∀ b,listed.getD b false=true->b < ops.size/\b ∉ i :: r:=fun b hb=>by
   have hbs:b < listed.size:=by
    rcases Nat.lt_or_ge b listed.size with h | h
    ·exact h
    ·simp [Array.getElem?_eq_none h] at hb
   refine ⟨by omega,fun hmem=>?_⟩
   have:=(hl b (by omega)).2 hmem
   simp only [Array.getD_eq_getD_getElem?,Array.getElem?_eq_getElem hbs,Option.getD_some] at hb this
   rw [hb] at this
   cases this
  obtain ⟨m,hm1,hm2⟩:=(qp8 ops.toList []).2 j o (by simpa using ho)
  simp only [List.length_nil,Nat.zero_add] at hm1
  have hmj:∀ b,((xc [] ops.toList).getD j 0).testBit b=true->b ∉ i :: r:=fun b hb=>by
   rw [List.getD_eq_getElem?_getD,hm1] at hb
   obtain ⟨e,he,hb',hor⟩:=hm2 b hb
   obtain ⟨h1,h2⟩:=hlisted e.on (hjall e he hb')
   rcases hor with rfl | h
   ·exact h2
   ·exact hmask e.on h1 h2 b h
  have hnd:(i :: r).Nodup:=qhn hp
  refine zyd hC hi hjrem hp (fun k hk hkj e f he hf=>?_) (fun o' j' want ho' hg hmem=>?_) hst hgood (fun f p hf hne k e q hk=>?_) hn0 _ Q (fun a' w' h'=>?_) hQp
  ·have he':(es.map (·.1))[k]? = some e.1:=by rw [List.getElem?_map,he]; rfl
   have hf':(es.map (·.1))[j]? = some f.1:=by rw [List.getElem?_map,hf]; rfl
   exact (qux hord he' hf' hkj).resolve_left fun h=>hmj k h hk
  ·obtain ⟨_,e,he,heq,hb⟩:=hst.guard j o' j' want ho' hg
   rw [ho] at ho'
   cases ho'
   have:=(hlisted e.on (hjall e he hb)).2
   rw [heq] at this
   exact this hmem
  ·rcases hne with hne | ⟨t,hdt,htD⟩
   ·exact hmj k (zzm hwro hf hne hk)
   ·refine hmj k ?_
    rw [List.getD_eq_getElem?_getD,hm1]
    exact zrw hf hdt (hD ▸ htD) hm1 hk
  ·refine zlp hC hD hst hord hwro hgood hn0 Q hQ hQp fuel _ (listed.setIfInBounds j true) a' w' ?_ (qra hp j) (by simpa using hsz) (fun k hk=>?_) (fun k hk=>hlt k (List.mem_of_mem_erase hk)) (fun k hk hkr b hb=>?_) h'
   ·rw [List.length_erase_of_mem hjrem]
    omega
   ·rw [hnd.mem_erase_iff]
    by_cases hkj:j=k
    ·subst hkj
     simp [hsz,hjlt]
    ·simp only [Array.getD_eq_getD_getElem?,Array.getElem?_setIfInBounds_ne hkj]
     rw [← Array.getD_eq_getD_getElem?,hl k hk]
     constructor
     ·exact fun h=>⟨Ne.symm hkj,h⟩
     ·exact fun h=>h.2
   ·rw [hnd.mem_erase_iff] at hkr ⊢
    rintro ⟨h1,h2⟩
    by_cases hkj:k=j
    ·subst hkj
     exact hmj b hb h2
    ·exact hmask k hk (fun hh=>hkr ⟨hkj,hh⟩) b hb h2
theorem zfg {d:St} {all:List (Ef × Option Pan)} {good:Tr} {Q:XE->St->Prop}:{ps:List Pan}->(zut d all good ps).sat Q->(∃ p ∈ ps,p.bad=true/\qq (all.flatMap (zsu p.pv))/\Q (.panic p.pv) d) ∨ ((∀ p ∈ ps,p.bad=false)/\good.sat Q)
 |[],h=>.inr ⟨fun p hp=>by simp at hp,h⟩
 |p :: r,h=>by
  cases hb:p.bad with
  |true=>
   obtain ⟨h1,h2⟩:=qav _ (h.1 hb)
   exact .inl ⟨p,by simp,hb,h1,h2⟩
  |false=>
   rcases zfg (h.2 hb) with ⟨q,h1,h2⟩ | ⟨h1,h2⟩
   ·exact .inl ⟨q,List.mem_cons_of_mem _ h1,h2⟩
   ·refine .inr ⟨fun q hq=>?_,h2⟩
    rcases List.mem_cons.1 hq with rfl | hq
    ·exact hb
    ·exact h1 q hq
theorem qt5 {A:Type} {f:A->List Prop}:{l:List A}->qq (l.flatMap f)->∀ x ∈ l,qq (f x)
 |[],_,x,hx=>by simp at hx
 |y :: r,h,x,hx=>by
  rw [List.flatMap_cons] at h
  obtain ⟨h1,h2⟩:=xg.1 h
  rcases List.mem_cons.1 hx with rfl | hx
  ·exact h1
  ·exact qt5 h2 x hx
theorem zob (hC:CxOK P C) {id:Nat}:qkq P E (.region id ops true) (zc7 P C b ops.toList):=by
 intro s t h Q hq a w hi
 unfold zc7 at h
 split at h<;>try (cases h; done)
 rename_i hstat
 split at h<;>try (cases h; done)
 rename_i es s' hrun
 split at h<;>try (cases h; done)
 rename_i hord
 simp only [Option.some.injEq] at h
 subst h
 have hn:=zlv _ _ _ _ hrun
 have hst:StatOK s'.n ops:=by rw [hn]; exact qpj hstat
 have hruns:qv1 P C b ops es s' (List.range' 0 ops.size) s:=by
  have:=zlx (es:=es) ops.toList 0 s es hrun (fun i o hi=>by simpa using hi) (fun i e hi=>by simpa using hi)
  simpa using this
 have hlen:es.length=ops.size:=by
  have:=qto _ _ _ _ hrun
  simpa using this
 obtain ⟨F,γ,hi⟩:=hi
 have hstart:∀ w',InvG P E s a w' [] F γ->zbv P E C b ops es (qq0 ops.toList es) s s' (List.range' 0 ops.size) a w':=fun w' hi'=>by
  refine ⟨s,[],F,γ,hi',fun t=>?_,hruns,hn.symm,rfl,fun k e p hk hnot=>?_,fun _=>⟨rfl,fun _ _=>rfl⟩⟩
  ·constructor
   ·intro hh; simp at hh
   ·rintro ⟨k,o,hk,hnot,_⟩
    exfalso
    apply hnot
    rw [List.mem_range'_1]
    have:=(Array.getElem?_eq_some_iff.1 hk).1
    omega
  ·exfalso
   apply hnot
   rw [List.mem_range'_1]
   have:=(List.getElem?_eq_some_iff.1 hk).1
   omega
 have key:∀ pv:PV,(∀ (i:Nat) x,es[i]? = some x->zf5 pv x)->(∀ a' w',zbv P E C b ops es (qq0 ops.toList es) s s' [] a' w'->qa3 P E Q .normal a' w') ->
   ((∃ k:Nat,∃ e p,es[k]? = some (e,some p)/\p.bad=true)->∀ a' w',I P E ⟨s.n,zae (qq0 ops.toList es) s.sl,s.mem,s.gs⟩ a' w'->qa3 P E Q (.panic [{ v:=pv.val,recovered:=false }]) a' w')->(Code.region id ops true).wp P (qa3 P E Q) a w:=by
  intro pv hg hend hpan
  refine wp_region_any hC.mo ?_
  refine zlp hC rfl hst hord.1 hord.2 hg hn.symm _ hend hpan ops.size (List.range' 0 ops.size) _ a _ (by simp) List.pairwise_lt_range' (by simp) (fun i hi'=>?_) (fun i hi'=>?_) (fun k hk hnot=>?_) (hstart _ (zkv hi))
  ·simp only [List.mem_range'_1,Array.getD_eq_getD_getElem?,Array.getElem?_replicate,hi',if_true,Option.getD_some,true_iff]
   omega
  ·rw [List.mem_range'_1] at hi'
   omega
  ·exfalso
   apply hnot
   rw [List.mem_range'_1]
   omega
 rcases zfg hq with ⟨p,hp,hb,hall,hQ⟩ | ⟨hno,hgood⟩
 ·refine key p.pv (fun i x hx=>yb1 (qt5 hall x (List.mem_of_getElem? hx))) ?_ (fun _ a' w' hiw=>⟨.panic p.pv,_,rfl,hiw,hQ⟩)
  rintro a' w' ⟨st,W,F',γ',hinv,_,_,_,_,hdone,_⟩
  exfalso
  obtain ⟨x,hx,hxp⟩:=List.mem_filterMap.1 hp
  obtain ⟨i,hi⟩:=List.getElem?_of_mem hx
  obtain ⟨e,q⟩:=x
  simp only at hxp
  subst hxp
  have:=hdone i e p hi (by simp)
  rw [hb] at this
  cases this
 ·obtain ⟨hneed,hq'⟩:=quv _ hgood
  have hbadF:∀ (k:Nat) e p,es[k]? = some (e,some p)->p.bad=false:=fun k e p hk=>hno p (List.mem_filterMap.2 ⟨(e,some p),List.mem_of_getElem? hk,rfl⟩)
  refine key ⟨0,.i64,0⟩ (fun i x hx=>?_) ?_ ?_
  ·obtain ⟨e,p⟩:=x
   have hne:qq e.need:=hneed e (List.mem_map.2 ⟨(e,p),List.mem_of_getElem? hx,rfl⟩)
   cases p with
   |none=>exact hne
   |some q=>exact ⟨fun _=>hne,fun hb=>by rw [hbadF i e q hx] at hb; cases hb⟩
  ·rintro a' w' ⟨st,W,F',γ',hinv,_,hr,_⟩
   have hr':st=s':=hr
   subst hr'
   exact ⟨.normal,_,rfl,⟨F',γ',qim hinv⟩,hq'⟩
  ·rintro ⟨k,e,p,hk,hb⟩
   rw [hbadF k e p hk] at hb
   cases hb
end
def zv9:List Oper->Option (FuncId × Tmp)
 |[⟨none,.defer ⟨.value (.func f),args,_⟩,_,_,_,none⟩]=>match args.toList with
  |[.tmp tp]=>some (f,tp)
  |_=>none
 |_=>none
def zub (P:Program) (C:Cx) (run:St->Option Tr) (T:TypeId) (k:IntKind) (fn:Func) (A:Code) (tp:Tmp) (ps:List PT) (rs:List Ty) (xs:qm ps):Option (Fr (qi rs)):=
 if (fn.name == "runtime.NumGoroutine")=false/\ps.length<=fn.ntmps then match yy P C 0 qp A 0 (qod fn.ntmps (qgv ps xs)) with
  |some (.leaf .normal s1)=>match s1.sl tp with
   |.c (.ptr id 0)=>match run ⟨s1.n,s1.sl,s1.mem,fun t=>if t=0 then .c (.ptr id 0) else .dead⟩ with
    |some t=>frD P T k fn.results.toList rs t
    |none=>none
   |_=>none
  |_=>none
 else none
section
variable {P:Program} {w w':World} {E:Env} {F F':Nat->Prop} {γ γ':Nat->Value}
theorem yba {C:Cx} (hC:CxOK P C) {run:St->Option Tr} {f g:FuncId} {T:TypeId} {k:IntKind} {fn:Func} {A c:Code} {rid:Nat} {ops:Array Oper} {tp:Tmp} {ps:List PT} {rs:List Ty} {fr:qm ps->Fr (qi rs)} (x0:qm ps)
  (hf:P.funcs[f]? = some fn) (hb:fn.body=some (.seq A (.seq (.region rid ops false) c))) (hd:zv9 ops.toList=some (g,tp)) (hT:TolOK P g T k) (hR:∀ E,qkq P E c run)
  (hrun:∀ xs,zub P C run T k fn A tp ps rs xs=some (fr xs)):qa P f ⟨ps,rs,fun xs=>(fr xs).get,fun xs=>[(fr xs).ok]⟩:=by
 have h0:=hrun x0
 unfold zub at h0
 split at h0<;>try (cases h0; done)
 rename_i hc
 refine ⟨enters hf hb hc.1,fun w F xs vs hbd hr hok=>calls_of_wp_defers hf hb ?_⟩
 have hr':=hrun xs
 unfold zub at hr'
 simp only [hc,and_self,if_true] at hr'
 split at hr'<;>try (cases hr'; done)
 rename_i s1 ht1
 split at hr'<;>try (cases hr'; done)
 rename_i id hsl
 split at hr'<;>try (cases hr'; done)
 rename_i t ht2
 have hlen:vs.length=ps.length:=qio hr
 have hstart:=qiw (D:=[]) (n:=fn.ntmps) hbd (fun R=>qer (R:=R) hr) (by have:=hc.2; omega)
 have hsz:(vs.toArray).size=vs.length:=by simp
 rw [hsz]
 refine wp_seq (wp_mono (yv hC A 0 (qd A 0) ht1 (Q:=fun e s=>e = .normal/\s=s1) ⟨rfl,rfl⟩ hstart) ?_)
 rintro e a1 w1 ⟨xe,s,rfl,⟨F1,γ1,hi⟩,rfl,rfl⟩
 have hv0:=qkd hi tp
 rw [hsl] at hv0
 obtain ⟨_,b0,hR0,hv0⟩:=hv0
 refine wp_seq (wp_region ?_)
 unfold zv9 at hd
 split at hd<;>try (cases hd; done)
 rename_i f0 args ats ty pos aft hops
 split at hd<;>try (cases hd; done)
 rename_i tp0 hargs
 simp only [Option.some.injEq,Prod.mk.injEq] at hd
 obtain ⟨rfl,rfl⟩:=hd
 obtain ⟨ol⟩:=ops
 simp only at hops
 subst hops
 have hargs':args = #[.tmp tp0]:=by
  obtain ⟨l⟩:=args
  simp only at hargs
  rw [hargs]
 subst hargs'
 have hev:a1.eval (.tmp tp0) = .pointer (some ⟨b0,0,none⟩):=hv0
 have hexec:(execOp a1.eval ⟨none,.defer ⟨.value (.func f0),#[.tmp tp0],ats⟩,ty,pos,aft,none⟩).run P w1 = .ok (.defer { target:=.fn (.func f0) #[],args:=#[.pointer (some ⟨b0,0,none⟩)] }) w1:=by
  have hef:a1.eval (.func f0) = .func (.func f0) #[] #[]:=rfl
  simp [execOp,resolve,hev,hef,Deferred.ofValue]
 have hrange:List.range (#[(⟨none,.defer ⟨.value (.func f0),#[.tmp tp0],ats⟩,ty,pos,aft,none⟩:Oper)]:Array Oper).size=[0]:=rfl
 rw [hrange]
 show wpOps P _ _ [0] a1 w1
 unfold wpOps
 simp only [List.getElem?_toArray,List.getElem?_cons_zero]
 have hw:Region.wanted (⟨none,.defer ⟨.value (.func f0),#[.tmp tp0],ats⟩,ty,pos,aft,none⟩:Oper) (yielded #[(⟨none,.defer ⟨.value (.func f0),#[.tmp tp0],ats⟩,ty,pos,aft,none⟩:Oper)] a1.tmps)=true:=rfl
 rw [if_pos hw]
 refine .inl ?_
 unfold Oper.wp
 rw [hexec]
 rw [Oper.upon_defer]
 simp only [wpOps]
 show Code.wp P c (bodyPostD P fn (qdw w F rs (fr xs).get)) { a1 with defers:={ target:=.fn (.func f0) #[],args:=#[.pointer (some ⟨b0,0,none⟩)] } :: a1.defers } w1
 have hi':InvG P ⟨w,F,fun _=>.pointer (some ⟨b0,0,none⟩),[{ target:=.fn (.func f0) #[],args:=#[.pointer (some ⟨b0,0,none⟩)] }],w.heap.size,Nat.le_refl _⟩ ⟨s.n,s.sl,s.mem,fun t=>if t=0 then .c (.ptr id 0) else .dead⟩ { a1 with defers:={ target:=.fn (.func f0) #[],args:=#[.pointer (some ⟨b0,0,none⟩)] } :: a1.defers } w1 [] F1 γ1:=by
  refine ⟨hi.n,?_,hi.step,hi.mem,hi.sl,hi.hg,fun t=>?_⟩
  ·show _ :: a1.defers=[_]
   rw [hi.df]
  ·show qy P w1 F1 _ (if t=0 then .c (.ptr id 0) else .dead) _
   split
   ·exact ⟨rfl,b0,hR0,rfl⟩
   ·trivial
 have hwp:=hR ⟨w,F,fun _=>.pointer (some ⟨b0,0,none⟩),[{ target:=.fn (.func f0) #[],args:=#[.pointer (some ⟨b0,0,none⟩)] }],w.heap.size,Nat.le_refl _⟩ _ _ ht2 _ (qj8 hr' hok) _ _ ⟨F1,γ1,hi'⟩
 refine wp_mono hwp ?_
 rintro e a2 w2 ⟨xe,s2,rfl,⟨F2,γ2,hi2⟩,hx⟩
 have hinv:∀ W,(invoke (.fn (.func f0) #[]) #[.pointer (some ⟨b0,0,none⟩)]).run P W = .ok (.enter f0 #[.pointer (some ⟨b0,0,none⟩)]) W:=fun W=>by
  have:=hT.enter #[.pointer (some ⟨b0,0,none⟩)] W
  simp [invoke,this]
 have hfin:(∃ n,qa2 P fn.results.toList rs s2=some (Fr.needL n (.val (fr xs).get))/\qq n)->Leaves P fn a2.tmps (qdw w F rs (fr xs).get) a2.defers .returning w2:=by
  rintro ⟨n,hend,hn⟩
  rw [hi2.df]
  refine leaves_cons (by simp) (hinv w2) ((hT.idle _ w2).mono ?_)
  rintro e u' w' ⟨⟨v,rfl⟩,rfl,rfl⟩
  exact qig hi2 rfl hend hn
 cases xe with
 |normal=>exact hfin hx
 |ret=>exact hfin hx
 |exit _=>exact hx.elim
 |val _=>exact hx.elim
 |jump _=>exact hx.elim
 |panic p=>
  obtain ⟨s',n,hs',hin,hend,hn⟩:=hx
  obtain ⟨hty,hk,hlow,b,tyb,old,hG,hheap,hi3⟩:=zmi hi2 hs' hin
  have hG':(Value.pointer (some ⟨b0,0,none⟩)) = .pointer (some ⟨b,0,none⟩):=hG
  simp only [Value.pointer.injEq,Option.some.injEq,Addr.mk.injEq,and_true] at hG'
  subst hG'
  show Leaves P fn a2.tmps _ a2.defers (.panicking [{ v:=p.val,recovered:=false }]) w2
  rw [PV.val_low (by rw [hty]; exact hlow),hi2.df,hty,hk]
  refine leaves_cons (by simp) (hinv w2) ((hT.told b0 tyb old p.n w2 hheap).mono ?_)
  rintro e u' w' ⟨⟨v,rfl⟩,rfl,rfl⟩
  exact qig hi3 rfl hend hn
end
end Go.Ab

namespace Go.Ab
open Go Go.RowKit
section
variable {P:Program} {E:Env}
theorem qch.scope2 {c rest:Code} {L0 L N Eo R:LS} {n id l:Nat} {f0:L0.X->Fr (Rd L.X Eo.X R.X)} {f:L.X->Fr (Rd L.X Eo.X R.X)} (hf:findLabel c l=some rest) (h1:qch P l c L0 ⟨n,id,L,Eo,R⟩ f0) (h2:qch P l rest L ⟨n,id,L,Eo,R⟩ f)
  {F0:L0.X->Fr (Rd N.X Eo.X R.X)} {F:L.X->Fr (Rd N.X Eo.X R.X)} {inv:L.X->Prop} {μ:L.X->Nat}
  (hlaw0:∀ x,∀ Q:Rd N.X Eo.X R.X->Prop,(F0 x).satP Q->(f0 x).satP fun
   |.next x'=>inv x'/\(F x').satP Q
   |.out y=>Q (.out y)
   |.back z=>Q (.back z)
   |.pan p=>Q (.pan p))
  (hlaw:∀ x,inv x->∀ Q:Rd N.X Eo.X R.X->Prop,(F x).satP Q->(f x).satP fun
   |.next x'=>inv x'/\μ x' < μ x/\(F x').satP Q
   |.out y=>Q (.out y)
   |.back z=>Q (.back z)
   |.pan p=>Q (.pan p)):qe P (.scope c) L0 ⟨n,id,N,Eo,R⟩ F0:=by
 intro E a w x Q hi hq
 have hmono:∀ {J J':Act->World->Prop} {c':Code} {a:Act} {w:World},(∀ a w,J a w->J' a w)->c'.wp P (Exit.jump l J (qqf P E ⟨n,id,N,Eo,R⟩ Q)) a w->c'.wp P (Exit.jump l J' (qqf P E ⟨n,id,N,Eo,R⟩ Q)) a w:=by
  intro J J' c' a w hJ h
  refine wp_mono h fun e a' w' he=>?_
  cases e with
  |goto l'=>exact ⟨he.1,hJ _ _ he.2⟩
  |_=>exact he
 refine wp_scope_jumps l (fun a w=>∃ m,∃ x,inv x/\μ x=m/\I P E (L.tpl n x) a w/\(F x).satP Q) (fun a w=>qm7 fun m=>∃ x,inv x/\μ x=m/\I P E (L.tpl n x) a w/\(F x).satP Q) hf ?_ ?_
 ·refine wp_mono (h1 E a w x _ hi (hlaw0 x Q hq)) ?_
  rintro e a' w' ⟨r,hr,hm⟩
  cases r with
  |next x'=>
   obtain ⟨rfl,hi'⟩:=hm
   exact ⟨rfl,⟨μ x',x',hr.1,rfl,hi',hr.2⟩⟩
  |out y=>
   obtain ⟨rfl,hi'⟩:=hm
   exact ⟨.out y,hr,rfl,hi'⟩
  |back z=>
   obtain ⟨rfl,hi'⟩:=hm
   exact ⟨.back z,hr,rfl,hi'⟩
  |pan v=>
   obtain ⟨rfl,hi'⟩:=hm
   exact ⟨.pan v,hr,rfl,hi'⟩
 ·rintro a w ⟨m,hm⟩
  obtain ⟨⟨x',q1,q2,q3,q4⟩,_⟩:=qee (p:=fun m=>∃ x,inv x/\μ x=m/\I P E (L.tpl n x) a w/\(F x).satP Q) ⟨m,hm⟩
  refine wp_mono (h2 E a w x' _ q3 (hlaw x' q1 Q q4)) ?_
  rintro e a1 w1 ⟨r,hr,hm1⟩
  cases r with
  |next y=>
   obtain ⟨rfl,hi'⟩:=hm1
   refine ⟨rfl,⟨μ y,y,hr.1,rfl,hi',hr.2.2⟩,?_⟩
   rw [← q2]
   exact Nat.lt_of_le_of_lt ((qee (p:=fun m=>∃ x,inv x/\μ x=m/\I P E (L.tpl n x) a1 w1/\(F x).satP Q) ⟨μ y,y,hr.1,rfl,hi',hr.2.2⟩).2 (μ y) ⟨y,hr.1,rfl,hi',hr.2.2⟩) hr.2.1
  |out y=>
   obtain ⟨rfl,hi'⟩:=hm1
   exact ⟨.out y,hr,rfl,hi'⟩
  |back z=>
   obtain ⟨rfl,hi'⟩:=hm1
   exact ⟨.back z,hr,rfl,hi'⟩
  |pan v=>
   obtain ⟨rfl,hi'⟩:=hm1
   exact ⟨.pan v,hr,rfl,hi'⟩
end
end Go.Ab

namespace Go.Ab
open Go Go.RowKit
structure GrowOK (P:Program) (f:FuncId) (e:TypeId) (T:Ty) (bytes:Nat):Prop where
 enters:∀ args w,(callFunc f args).run P w = .ok (.enter f args) w
 calls:∀ (w:World) (n:Nat),n<=maxLen->n * bytes<=140737488355328->Calls P f #[.slice none 0 0,.int .i64 n] w fun en w'=>
  ∃ v,en = .returned v/\w.grownBy w' none/\w'.ownsRow w.heap.size e T.size v 0 []
def zsv (f:FuncId) (e:TypeId) (T:Ty) (bytes:Nat) (d:Nat) (g:FuncId) (args:List AV) (s:St):Option Tr:=
 if g=f then match args,s.mem d with
  |[.c .nil,.c (.int .i64 n)],none=>some (needL [0<=n/\n<=maxLen/\n * bytes<=140737488355328] (.leaf (.val (.c (.own d))) ⟨s.n,s.sl,upd s.mem d (.arr e T []),s.gs⟩))
  |_,_=>none
 else none
theorem yg (w:World) (o:Obj) (i:Nat) (h:i < w.heap.size):(w.alloc o).heap[i]? = w.heap[i]? := by
 first
  |exact heap_alloc_old w o i h
  |exact heap_alloc_old w o h
theorem zn7 {w:World} {B B':Nat} {e:TypeId} {size n:Nat} {v:Value} {xs:List Value} (h:w.ownsRow B e size v n xs) (hb:B'<=B):w.ownsRow B' e size v n xs:=
 qjn h fun g hg=>Nat.le_trans hb (h.lt g hg).1
theorem yb4 {P:Program} {f:FuncId} {e:TypeId} {T:Ty} {bytes:Nat} (h:GrowOK P f e T bytes):qhs P (zsv f e T bytes):=by
 intro d g args s t ht
 unfold zsv at ht
 split at ht<;>try (cases ht; done)
 rename_i hg
 subst hg
 split at ht<;>try (cases ht; done)
 rename_i n hmd
 simp only [Option.some.injEq] at ht
 subst ht
 refine ⟨h.enters,fun E a w F γ vs Q hi hr hq=>?_⟩
 obtain ⟨⟨h0,h1,h2⟩,hqv⟩:=hq
 match vs,hr with
 |[v1,v2],⟨⟨_,hv1⟩,⟨_,hv2,_⟩,_⟩=>
  have e1:v1 = .slice none 0 0:=hv1
  have e2:v2 = .int .i64 n:=hv2
  subst e1
  subst e2
  obtain ⟨m,rfl⟩:∃ m:Nat,n=m:=⟨n.toNat,by omega⟩
  have h3:((m * bytes:Nat):Int)<=140737488355328:=by rw [Int.natCast_mul]; exact h2
  have h4:m * bytes<=140737488355328:=by omega
  refine (h.calls w m (by omega) h4).mono fun en w2 hp=>?_
  obtain ⟨v,rfl,hgr,hown⟩:=hp
  have hBs:=Step.size' hi
  have hlow:w2.ownsRow E.B e T.size v ([]:List T.den).length []:=zn7 hown hBs
  obtain ⟨s1,m1⟩:=qm9 (v:=v) (l:=([]:List T.den)) (xs:=[]) hi.mem (ke hi) hBs hmd hgr hlow (fun g hg=>(hown.lt g hg).1) (fun i x hx=>by simp at hx)
  have hinv:InvG P E ⟨s.n,s.sl,upd s.mem d (.arr e T []),s.gs⟩ a w2 [] F (qcd γ d v):=by
   refine ⟨hi.n,hi.df,?_,m1,fun t=>(hi.sl t).mono s1.hF s1.hw s1.hR,hi.hg,fun t=>s1.repA (hi.gh t)⟩
   obtain ⟨γ0,h0⟩:=hi.step
   exact ⟨γ0,h0.trans s1⟩
  exact ⟨.val (.c (.own d)),_,F,_,hqv,hinv,v,rfl,qfh (qna hown)⟩
end Go.Ab

namespace Go.Ab
open Go Go.RowKit
section
variable {F:Fence} {n:Nat} {P:Program} {w:World}
def zqp {α:Type} (F:Fence) (n:Nat) (P:Program) (gf:Nat) (lb:Array Value) (encs:α->Array Value) (E:α->World->World->Prop) (Kp:World->World->Prop) (S:List α->Prop) (N:Nat) (w0:World):Prop:=
 ∀ (l:Nat) (J:List α->World->Prop) (W:World),Below w0.heap.size w0 W->AbidesFrom W.heap.size J ->
  (∀ pre x W0 W1,J pre W0->Below W0.heap.size W0 W1->E x W0 W1->pre.length < N->YieldAt F (n - 1) P l (encs x) W1 fun e W'=>e = .returned (.bool true)/\J (pre++[x]) W'/\Kp W1 W') ->
  J [] W->CallsIn F n P gf (#[.func (.yield l) #[] #[]]++lb) W fun e W'=>(∃ v,e = .returned v)/\∃ xs,S xs/\J xs W'
def zyi {α:Type} (b:Nat) (Kp:World->World->Prop) (I:List α->World->Prop) (xs:List α) (W:World) (e:Exit) (_:Act) (W':World):Prop:=
 e = .normal/\KeepsFrom b W W'/\Kp W W'/\I xs W'
theorem zoh {α:Type} {g:Operand} {ps:Array Tmp} {assign body:Code} {Q:Exit->Act->World->Prop} {a:Act}
  (hro:F.round=none) (h1:1<=n) {gf:Nat} {lb:Array Value} (hg:a.eval g = .func (.func gf) #[] lb) (hFg:F.fn gf) (eg:∀ args w,(callFunc gf args).run P w = .ok (.enter gf args) w)
  {encs:α->Array Value} {E:α->World->World->Prop} {Kp:World->World->Prop} {S:List α->Prop} {N:Nat} (hseq:zqp F (n - 1) P gf lb encs E Kp S N w)
  (hKt:∀ {A B C:World},Kp A B->Kp B C->Kp A C) (hKb:∀ (W:World) (l:Nat) (o o':Obj),w.heap.size<=l->W.heap[l]? = some o->o.isCells=false->Kp W (W.putObj l o')) (hps:∀ x,(encs x).size=ps.size)
  (I:List α->World->Prop) (hI:OwnFrom w.heap.size I) (h0:I [] w) (A:List α->α->Act->World->Prop) (hA:∀ pre x a',OwnFrom w.heap.size (fun (_:Unit) W=>A pre x a' W))
  (hassign:∀ (l:Nat) (pre:List α) (x:α) (W0 W:World) (K:Act->World->Prop),I pre W0->Below W0.heap.size W0 W->E x W0 W->(∀ a' W',KeepsFrom w.heap.size W W'->Kp W W'->A pre x a' W'->K a' W') ->
   assign.wpIn (F.inRound l) (n - 1 - 1) P (Exit.then K (fun _ _ _=>False)) { tmps:=(ps.zip (encs x)).foldl (fun t (p,v)=>t.setIfInBounds p v) a.tmps,defers:=[] } W)
  (hbody:∀ (l:Nat) (pre:List α) (x:α) (a':Act) (W:World),A pre x a' W->pre.length < N->body.wpIn (F.inRound l) (n - 1 - 1) P (zyi w.heap.size Kp I (pre++[x]) W) a' W)
  (hdone:∀ (D:Nat) (xs:List α) (W:World),w.heap.size<=D->S xs->I xs W->W.heap[D]? = some (.deferred (some []))->Q .normal { a with defers:={ target:=.collected D,args:=#[] } :: a.defers } W) :
  (Code.rangeFunc g ps assign body).wpIn F n P Q a w:=by
 refine wpIn_rangeFunc fun fn hfn=>?_
 rw [hro]
 let mk:LoopState->Option Code->Loop:=fun st pe=>{ state:=st,pending:=pe,fn,tmps:=a.tmps,params:=ps,assign,body,defers:=w.heap.size }
 let d0:Obj:=.deferred (some [])
 have hsz:(w.alloc d0).heap.size=w.heap.size+1:=by simp
 have hL:((w.alloc d0).alloc (.loop (mk .ready none))).heap[w.heap.size+1]? = some (.loop (mk .ready none)):=by
  have:=World.alloc_heap_new (w.alloc d0) (.loop (mk .ready none))
  rwa [hsz] at this
 have hD:((w.alloc d0).alloc (.loop (mk .ready none))).heap[w.heap.size]? = some d0:=
  (Below.heap_alloc _ _ _ (by rw [hsz]; omega)).trans (World.alloc_heap_new w _)
 have hbel:Below w.heap.size w ((w.alloc d0).alloc (.loop (mk .ready none))):=((Below.refl _ w).alloc (Nat.le_refl _) _).alloc (by rw [hsz]; omega) _
 generalize hW1:(w.alloc d0).alloc (.loop (mk .ready none))=W1 at hL hD hbel
 have hI1:I [] W1:=by rw [← hW1]; exact hI.alloc _ (hI.alloc _ h0)
 have hs1:W1.heap.size=w.heap.size+2:=by rw [← hW1]; simp
 refine ⟨w.heap.size+1,[{ target:=.collected w.heap.size,args:=#[] }],W1,{ target:=.fn (.func gf) lb,args:=#[.func (.yield (w.heap.size+1)) #[] #[]] },W1,gf,
  #[.func (.yield (w.heap.size+1)) #[] #[]]++lb,W1,?_,?_,?_,?_,fun _=>h1,?_⟩
 ·rw [← hW1]
  exact run_enterLoop_outer _ _ _ _ _
 ·simp only [resolve,hg]
  simp [go_sem]
 ·intro f' hf'
  simp [Target.leads] at hf'
  subst hf'
  exact hFg
 ·simp [invoke,go_sem,eg]
 have hwalk:∀ {A:World} {row:Option Nat},(∀ r,row=some r->W1.heap.size<=r/\∃ o:Obj,A.heap[r]? = some o/\o.isWalk=true)->∀ r,row=some r->w.heap.size<=r/\∃ o:Obj,A.heap[r]? = some o/\o.isCells=false:=fun hr r e=>by
  obtain ⟨hb,o,ho,hw⟩:=hr r e
  exact ⟨by omega,o,ho,Obj.not_cells_of_walk hw⟩
 refine (hseq (w.heap.size+1) (fun pre W=>I pre W/\W.heap[w.heap.size+1]? = some (.loop (mk .ready none))/\W.heap[w.heap.size]? = some d0) W1 hbel ?_ ?_ ⟨hI1,hL,hD⟩).mono ?_
 ·rintro s X Y row ⟨q1,q2,q3⟩ hgr hr
  exact ⟨hI s X Y row q1 hgr (hwalk hr),(grownBy_keeps hgr (fun r e=>(hr r e).2) q2 rfl).trans q2,(grownBy_keeps hgr (fun r e=>(hr r e).2) q3 rfl).trans q3⟩
 ·rintro pre x W0 W ⟨hi0,hl0,hd0⟩ hb0 hE hlen
  have hl:=(hb0.block _ (Array.getElem?_eq_some_iff.1 hl0).1).trans hl0
  have hd:=(hb0.block _ (Array.getElem?_eq_some_iff.1 hd0).1).trans hd0
  refine ⟨fn,_,assign,body,run_yield (P:=P) (args:=encs x) hl (hps x),roundIn_of_wpIn hfn (hassign _ pre x W0 W _ hi0 hb0 hE ?_)⟩
  intro a' Wa hka hkpa hax
  have hla:=hka.same _ _ (by omega) hl rfl
  have hda:=hka.same _ _ (Nat.le_refl _) hd rfl
  have hlt:w.heap.size+1 < Wa.heap.size:=(Array.getElem?_eq_some_iff.1 hla).1
  refine ⟨_,run_beginRound hla rfl,?_⟩
  have hl2:(Wa.putObj (w.heap.size+1) (.loop { mk .ready none with state:=.busy })).heap[w.heap.size+1]? = some (.loop { mk .ready none with state:=.busy }):=World.putObj_heap_same hlt
  have hd2:(Wa.putObj (w.heap.size+1) (.loop { mk .ready none with state:=.busy })).heap[w.heap.size]? = some d0:=(World.putObj_heap_other (by omega)).trans hda
  have hk2:Kp Wa (Wa.putObj (w.heap.size+1) (.loop { mk .ready none with state:=.busy })):=hKb _ _ _ _ (by omega) hla rfl
  refine wpIn_mono (hbody _ pre x a' _ ((hA pre x a').putObj (s:=()) _ hax (by omega) hla rfl) hlen) ?_
  rintro e a3 W3 ⟨rfl,hk3,hkp3,hi3⟩
  have hl3:=hk3.same _ _ (by omega) hl2 rfl
  have hd3:=hk3.same _ _ (Nat.le_refl _) hd2 rfl
  have hend:=run_endRound (P:=P) none hl3
  refine ⟨_,_,hend,rfl,⟨hI.putObj _ hi3 (by omega) hl3 rfl,World.putObj_heap_same (Array.getElem?_eq_some_iff.1 hl3).1,(World.putObj_heap_other (by omega)).trans hd3⟩,hKt hkpa (hKt (hKt hk2 hkp3) (hKb _ _ _ _ (by omega) hl3 rfl))⟩
 ·rintro e W2 ⟨⟨v,rfl⟩,xs,hS,hi,hl,hd⟩
  exact ⟨none,_,run_endLoop (P:=P) hl (by simp [mk]),hdone _ xs _ (Nat.le_refl _) hS (hI.putObj _ hi (by omega) hl rfl) ((World.putObj_heap_other (by omega)).trans hd)⟩
end
end Go.Ab

namespace Go.Ab
open Go Go.RowKit
def zf7 (w' w:World):Prop:=w'.heap=w.heap/\w'.os=w.os/\w'.tape=w.tape/\w'.output=w.output
structure ToldTwo (P:Program) (g:FuncId) (T:TypeId) (k:IntKind) (m:Nat):Prop where
 enter:∀ args w,(callFunc g args).run P w = .ok (.enter g args) w
 idle:∀ (p q:Addr) (w:World),CallsD P g #[.pointer (some p),.pointer (some q)] .returning w fun e u' w'=>(∃ v,e = .returned v)/\u' = .returning/\w'=w
 told:∀ (b1 b2:Nat) (t1 t2:TypeId) (o1 o2:Array Value) (n:Int) (w:World),b1 ≠ b2->w.heap[b1]? = some (.cells o1 t1 (0,0))->o1.size=m->w.heap[b2]? = some (.cells o2 t2 (0,0))->o2.size=1 ->
  CallsD P g #[.pointer (some ⟨b1,0,none⟩),.pointer (some ⟨b2,0,none⟩)] (.panicking [{ v:=.iface T (.agg #[.int k n]),recovered:=false }]) w fun e u' w'=>
   (∃ v,e = .returned v)/\u' = .panicking [{ v:=.iface T (.agg #[.int k n]),recovered:=true }]/\zf7 w' ((w.setRow b1 (Array.replicate m (.int .i64 0))).setRow b2 #[.int k n])
def qvv (m:Nat):List AC:=List.replicate m (.int .i64 0)
def zg8 (T:TypeId) (k:IntKind) (m:Nat) (p:PV) (s:St):Option St:=
 match s.gs 0,s.gs 1 with
 |.c (.ptr i 0),.c (.ptr j 0)=>match s.mem i,s.mem j with
  |some (.box e cs),some (.box e2 [_])=>if p.ty=T+1000000/\p.k=k/\i ≠ j/\cs.length=m then some ⟨s.n,s.sl,upd (upd s.mem i (.box e (qvv m))) j (.box e2 [.int k p.n]),s.gs⟩ else none
  |_,_=>none
 |_,_=>none
def frT (P:Program) (T:TypeId) (k:IntKind) (m:Nat) (rv:List ResultVar) (rs:List Ty):Tr->Option (Fr (qi rs))
 |.leaf .ret s=>qa2 P rv rs s
 |.leaf .normal s=>qa2 P rv rs s
 |.leaf (.panic p) s=>match zg8 T k m p s with
  |some s'=>match qa2 P rv rs s' with
   |some f=>some (.need (inR k p.n) f)
   |none=>none
  |none=>none
 |.leaf _ _=>none
 |.br b x y=>match frT P T k m rv rs x,frT P T k m rv rs y with
  |some x',some y'=>some (.br b x' y')
  |_,_=>none
 |.need p x=>match frT P T k m rv rs x with
  |some x'=>some (.need p x')
  |none=>none
 |.two p x y=>match frT P T k m rv rs x,frT P T k m rv rs y with
  |some x',some y'=>some (.need (p->x'.ok/\x'.get=y'.get) y')
  |_,_=>none
def zwa:List Oper->Option (FuncId × Tmp × Tmp × Tmp)
 |[⟨some td,.makeFunc (.func f) first caps,_,_,_,none⟩,⟨none,.defer ⟨.value (.tmp td'),args,_⟩,_,_,_,none⟩]=>match first.toList,caps.toList,args.toList with
  |[],[.tmp ta,.tmp tb],[]=>if td'=td then some (f,td,ta,tb) else none
  |_,_,_=>none
 |_=>none
def zua (P:Program) (C:Cx) (run:St->Option Tr) (T:TypeId) (k:IntKind) (m:Nat) (fn:Func) (A:Code) (td ta tb:Tmp) (ps:List PT) (rs:List Ty) (xs:qm ps):Option (Fr (qi rs)):=
 if (fn.name == "runtime.NumGoroutine")=false/\ps.length<=fn.ntmps/\td < fn.ntmps then match yy P C 0 qp A 0 (qod fn.ntmps (qgv ps xs)) with
  |some (.leaf .normal s1)=>match s1.sl ta,s1.sl tb with
   |.c (.ptr i 0),.c (.ptr j 0)=>if s1.n=fn.ntmps then match run (qh6 ⟨s1.n,qdg s1.sl (some td) .dead,s1.mem,fun t=>if t=0 then .c (.ptr i 0) else if t=1 then .c (.ptr j 0) else .dead⟩) with
    |some t=>frT P T k m fn.results.toList rs t
    |none=>none
    else none
   |_,_=>none
  |_=>none
 else none
section
variable {P:Program} {w w':World} {E:Env} {F F':Nat->Prop} {γ γ':Nat->Value}
theorem qm5 {T:TypeId} {k:IntKind} {m:Nat} {rv:List ResultVar} {rs:List Ty}:{t:Tr} -> {f:Fr (qi rs)}->frT P T k m rv rs t=some f->f.ok->t.sat fun e s=>match e with
  |.ret=>∃ n,qa2 P rv rs s=some (Fr.needL n (.val f.get))/\qq n
  |.normal=>∃ n,qa2 P rv rs s=some (Fr.needL n (.val f.get))/\qq n
  |.panic p=>∃ s' n,zg8 T k m p s=some s'/\inR k p.n/\qa2 P rv rs s'=some (Fr.needL n (.val f.get))/\qq n
  |_=>False
 |.leaf e s,f,h,hok=>by
  cases e with
  |exit i=>simp [frT] at h
  |val i=>simp [frT] at h
  |jump i=>simp [frT] at h
  |normal=>exact qj6 h hok
  |ret=>exact qj6 h hok
  |panic p=>
   simp only [frT] at h
   split at h<;>try (cases h; done)
   rename_i s' hs'
   split at h<;>try (cases h; done)
   rename_i f' hf'
   simp only [Option.some.injEq] at h
   subst h
   obtain ⟨n,h1,h2⟩:=qj6 hf' hok.2
   exact ⟨s',n,hs',hok.1,h1,h2⟩
 |.br b x y,f,h,hok=>by
  simp only [frT] at h
  split at h<;>try (cases h; done)
  rename_i x' y' hx hy
  simp only [Option.some.injEq] at h
  subst h
  refine ⟨fun hb=>?_,fun hb=>?_⟩
  ·have:=qm5 hx (hok.1 hb)
   simpa only [Fr.get,hb,if_true] using this
  ·have:=qm5 hy (hok.2 hb)
   simpa only [Fr.get,hb,Bool.false_eq_true,if_false] using this
 |.need p x,f,h,hok=>by
  simp only [frT] at h
  split at h<;>try (cases h; done)
  rename_i x' hx
  simp only [Option.some.injEq] at h
  subst h
  have:=qm5 hx hok.2
  exact ⟨hok.1,this⟩
 |.two p x y,f,h,hok=>by
  simp only [frT] at h
  split at h<;>try (cases h; done)
  rename_i x' y' hx hy
  simp only [Option.some.injEq] at h
  subst h
  have h2:=qm5 hy hok.2
  refine ⟨fun hp=>?_,h2⟩
  have:=qm5 hx (hok.1 hp).1
  rwa [(hok.1 hp).2] at this
theorem ycg {s:St} {a:Act} (hi:InvG P E s a w [] F γ) (h:zf7 w' w):InvG P E s a w' [] F γ:=by
 obtain ⟨h1,h2,h3,h4⟩:=h
 have hh:∀ b:Nat,w'.heap[b]? = w.heap[b]? := fun b=>by rw [h1]
 have hs:Step E.B w F γ s.mem w' F γ s.mem:=⟨fun _ h=>h,fun b _=>hh b,fun _ _ h=>h,fun b _=>hh b,h2,h3,h4,by rw [h1]; exact Nat.le_refl _,fun b hb=>by rw [h1]; exact ke hi b hb,fun _ h=>.inl h⟩
 refine ⟨hi.n,hi.df,?_,hi.mem.keep (fun _ h=>h) (fun b _=>hh b) (fun id o b ho he=>⟨hh b,(qf3 (hi.mem.ob id o ho) he).2.1⟩),fun t=>(hi.sl t).mono hs.hF hs.hw hs.hR,hi.hg,fun t=>hs.repA (hi.gh t)⟩
 obtain ⟨γ0,h0⟩:=hi.step
 exact ⟨γ0,h0.trans hs⟩
theorem zfm {w:World} {F:Nat->Prop} {R:Nat->Value->Prop}:(m:Nat) -> {g:Nat->Value->Prop}->(∀ j,j < m->g j (.int .i64 0))->qu P w F R (qvv m) g
 |0,_,_=>trivial
 |m+1,_,h=>⟨⟨.int .i64 0,h 0 (by omega),rfl,rfl,by decide,by decide⟩,zfm m fun j hj=>h (j+1) (by omega)⟩
theorem zn5 {old new:Array Value} (h:old.size=new.size):yl old 0 new.toList=new:=by
 apply Array.ext
 ·rw [qjm (by simp; omega)]
  exact h
 ·intro i h1 h2
  simp only [yl,List.take_zero,List.nil_append,List.getElem_toArray]
  rw [List.getElem_append_left (by simpa using h2)]
  simp
theorem zza {T:TypeId} {k:IntKind} {m:Nat} {p:PV} {s s':St} {a:Act} (hi:InvG P E s a w [] F γ) (h:zg8 T k m p s=some s') (hr:inR k p.n) :
  p.ty=T+1000000/\p.k=k/\∃ b1 b2 t1 t2 o1 o2,E.G 0 = .pointer (some ⟨b1,0,none⟩)/\E.G 1 = .pointer (some ⟨b2,0,none⟩)/\b1 ≠ b2/\w.heap[b1]? = some (.cells o1 t1 (0,0))/\o1.size=m/\w.heap[b2]? = some (.cells o2 t2 (0,0))/\o2.size=1 /\
   InvG P E s' a ((w.setRow b1 (Array.replicate m (.int .i64 0))).setRow b2 #[.int k p.n]) [] F γ:=by
 unfold zg8 at h
 split at h<;>try (cases h; done)
 rename_i i j hg0 hg1
 split at h<;>try (cases h; done)
 rename_i e cs e2 c0 hM1 hM2
 split at h<;>try (cases h; done)
 rename_i hp
 simp only [Option.some.injEq] at h
 subst h
 obtain ⟨hp1,hp2,hij,hlen⟩:=hp
 have h0:=hi.gh 0
 rw [hg0] at h0
 have h1:=hi.gh 1
 rw [hg1] at h1
 obtain ⟨b1,o1,e11,e12,e13,e14,e15,e16,e17⟩:=qi1 hi.mem hM1 h0.2
 obtain ⟨b2,o2,e21,e22,e23,e24,e25,e26,e27⟩:=qi1 hi.mem hM2 h1.2
 have hne:b1 ≠ b2:=by
  rintro rfl
  exact hi.mem.apart i j _ _ b1 hij hM1 hM2 (by rw [e11]; rfl) (by rw [e21]; rfl)
 have ho1:yl o1 0 (Array.replicate m (.int .i64 0):Array Value).toList=Array.replicate m (.int .i64 0):=zn5 (by simp [e16,hlen])
 obtain ⟨s1,s2⟩:=qiq (off:=0) (cs':=qvv m) (vs:=(Array.replicate m (.int .i64 0):Array Value).toList) hi.mem (ke hi) hM1 e11 e13 e14 e15 (by simp [e16,hlen]) (by simp [qvv,e16,hlen]) (by
  rw [ho1]
  exact zfm m fun j hj=>by simp [hj])
 rw [ho1] at s1 s2
 have hM2':upd s.mem i (.box e (qvv m)) j=some (.box e2 [c0]):=(yo _ _ (Ne.symm hij)).trans hM2
 obtain ⟨old,rfl⟩:=qqa (by simpa using e26)
 have hov:yl #[old] 0 [.int k p.n] = #[.int k p.n]:=by simp [yl]
 have hb2:(w.setRow b1 (Array.replicate m (.int .i64 0))).heap[b2]? = some (.cells #[old] e2 (0,0)):=(setRow_other w b1 b2 _ (Ne.symm hne)).trans e23
 obtain ⟨s3,s4⟩:=qiq (off:=0) (cs':=[.int k p.n]) (vs:=[.int k p.n]) s2 s1.bd hM2' e21 hb2 e24 e25 (by simp) rfl ⟨⟨.int k p.n,by rw [hov]; rfl,rfl,rfl,hr⟩,trivial⟩
 rw [hov] at s3 s4
 have hst:=s1.trans s3
 refine ⟨hp1,hp2,b1,b2,e,e2,o1,#[old],e12,e22,hne,e13,e16.trans hlen,e23,rfl,⟨hi.n,hi.df,?_,s4,fun t=>(hi.sl t).mono hst.hF hst.hw hst.hR,hi.hg,fun t=>hst.repA (hi.gh t)⟩⟩
 obtain ⟨γ0,h0⟩:=hi.step
 exact ⟨γ0,h0.trans hst⟩
theorem ya9 {C:Cx} (hC:CxOK P C) {run:St->Option Tr} {f g:FuncId} {T:TypeId} {k:IntKind} {m:Nat} {fn:Func} {A c:Code} {rid:Nat} {ops:Array Oper} {td ta tb:Tmp} {ps:List PT} {rs:List Ty} {fr:qm ps->Fr (qi rs)} (x0:qm ps)
  (hf:P.funcs[f]? = some fn) (hb:fn.body=some (.seq A (.seq (.region rid ops false) c))) (hd:zwa ops.toList=some (g,td,ta,tb)) (hT:ToldTwo P g T k m) (hR:∀ E,qkq P E c run)
  (hrun:∀ xs,zua P C run T k m fn A td ta tb ps rs xs=some (fr xs)):qa P f ⟨ps,rs,fun xs=>(fr xs).get,fun xs=>[(fr xs).ok]⟩:=by
 have h0:=hrun x0
 unfold zua at h0
 split at h0<;>try (cases h0; done)
 rename_i hc
 refine ⟨enters hf hb hc.1,fun w F xs vs hbd hr hok=>calls_of_wp_defers hf hb ?_⟩
 have hr':=hrun xs
 unfold zua at hr'
 simp only [hc,and_self,if_true] at hr'
 split at hr'<;>try (cases hr'; done)
 rename_i s1 ht1
 split at hr'<;>try (cases hr'; done)
 rename_i i j hsl1 hsl2
 split at hr'<;>try (cases hr'; done)
 rename_i hsn
 split at hr'<;>try (cases hr'; done)
 rename_i t ht2
 have hlen:vs.length=ps.length:=qio hr
 have hstart:=qiw (D:=[]) (n:=fn.ntmps) hbd (fun R=>qer (R:=R) hr) (by have:=hc.2.1; omega)
 have hsz:(vs.toArray).size=vs.length:=by simp
 rw [hsz]
 refine wp_seq (wp_mono (yv hC A 0 (qd A 0) ht1 (Q:=fun e s=>e = .normal/\s=s1) ⟨rfl,rfl⟩ hstart) ?_)
 rintro e a1 w1 ⟨xe,s,rfl,⟨F1,γ1,hi⟩,rfl,rfl⟩
 have hva:=qkd hi ta
 rw [hsl1] at hva
 obtain ⟨_,b1,hR1,hva⟩:=hva
 have hvb:=qkd hi tb
 rw [hsl2] at hvb
 obtain ⟨_,b2,hR2,hvb⟩:=hvb
 refine wp_seq (wp_region ?_)
 obtain ⟨ol⟩:=ops
 simp only at hd
 unfold zwa at hd
 split at hd<;>try (cases hd; done)
 rename_i td0 f0 first caps ty pos aft td1 args ats ty' pos' aft'
 split at hd<;>try (cases hd; done)
 rename_i ta0 tb0 hfirst hcaps hargs
 split at hd<;>try (cases hd; done)
 rename_i htd
 subst htd
 simp only [Option.some.injEq,Prod.mk.injEq] at hd
 obtain ⟨rfl,rfl,rfl,rfl⟩:=hd
 have h1':first = #[]:=by
  obtain ⟨l⟩:=first
  simp only at hfirst
  rw [hfirst]
 have h2':caps = #[.tmp ta0,.tmp tb0]:=by
  obtain ⟨l⟩:=caps
  simp only at hcaps
  rw [hcaps]
 have h3':args = #[]:=by
  obtain ⟨l⟩:=args
  simp only at hargs
  rw [hargs]
 subst h1'
 subst h2'
 subst h3'
 have hev1:a1.eval (.tmp ta0) = .pointer (some ⟨b1,0,none⟩):=hva
 have hev2:a1.eval (.tmp tb0) = .pointer (some ⟨b2,0,none⟩):=hvb
 let cl:Value:=.func (.func f0) #[] #[.pointer (some ⟨b1,0,none⟩),.pointer (some ⟨b2,0,none⟩)]
 let o0:Oper:=⟨some td1,.makeFunc (.func f0) #[] #[.tmp ta0,.tmp tb0],ty,pos,aft,none⟩
 let o1:Oper:=⟨none,.defer ⟨.value (.tmp td1),#[],ats⟩,ty',pos',aft',none⟩
 have hx0:(execOp a1.eval o0).run P w1 = .ok (.value cl) w1:=by
  have hmf:∀ (fn:Fn) (first cap:Array Value) (w:World),(Instr.makeFunc fn first cap).run P w = .ok (.func fn first cap) w:=fun _ _ _ _=>rfl
  simp [execOp,o0,hev1,hev2,hmf,cl]
 have hput:(a1.put (some td1) cl).eval (.tmp td1)=cl:=by
  show (a1.put (some td1) cl).tmps.getD td1 undef=cl
  rw [qs1 _ _ _ _ (fun x hx=>by cases hx; rw [hi.n,hsn]; exact hc.2.2),if_pos rfl]
 have hx1:(execOp (a1.put (some td1) cl).eval o1).run P w1 = .ok (.defer { target:=.fn (.func f0) #[.pointer (some ⟨b1,0,none⟩),.pointer (some ⟨b2,0,none⟩)],args:=#[] }) w1:=by
  simp [execOp,resolve,o1,hput,cl,Deferred.ofValue]
 have hrange:List.range ((#[o0,o1]:Array Oper)).size=[0,1]:=rfl
 show wpOps P #[o0,o1] _ (List.range ((#[o0,o1]:Array Oper)).size) a1 w1
 rw [hrange]
 unfold wpOps
 simp only [List.getElem?_toArray,List.getElem?_cons_zero]
 rw [if_pos (show Region.wanted o0 (yielded #[o0,o1] a1.tmps)=true from rfl)]
 refine .inl ?_
 unfold Oper.wp
 rw [hx0,Oper.upon_value]
 unfold wpOps
 simp only [List.getElem?_toArray,List.getElem?_cons_succ,List.getElem?_cons_zero]
 rw [if_pos (show Region.wanted o1 (yielded #[o0,o1] (a1.put o0.dst cl).tmps)=true from rfl)]
 refine .inl ?_
 unfold Oper.wp
 rw [show o0.dst=some td1 from rfl,hx1,Oper.upon_defer]
 simp only [wpOps]
 have hip:=qim (qfe (d:=some td1) (v:=.dead) (u:=cl) (wr:=[]) hi (fun x hx=>by cases hx; exact ⟨by rw [hsn]; exact hc.2.2,by simp⟩) (Step.refl (ke hi)) hi.mem trivial (fun _ _ _ h=>by cases h))
 show Code.wp P c (bodyPostD P fn (qdw w F rs (fr xs).get)) { (a1.put (some td1) cl) with defers:={ target:=.fn (.func f0) #[.pointer (some ⟨b1,0,none⟩),.pointer (some ⟨b2,0,none⟩)],args:=#[] } :: (a1.put (some td1) cl).defers } w1
 let D:List Deferred:=[{ target:=.fn (.func f0) #[.pointer (some ⟨b1,0,none⟩),.pointer (some ⟨b2,0,none⟩)],args:=#[] }]
 let E2:Env:=⟨w,F,fun t=>if t=0 then .pointer (some ⟨b1,0,none⟩) else .pointer (some ⟨b2,0,none⟩),D,w.heap.size,Nat.le_refl _⟩
 have hi':InvG P E2 (qh6 ⟨s.n,qdg s.sl (some td1) .dead,s.mem,fun t=>if t=0 then .c (.ptr i 0) else if t=1 then .c (.ptr j 0) else .dead⟩) { (a1.put (some td1) cl) with defers:={ target:=.fn (.func f0) #[.pointer (some ⟨b1,0,none⟩),.pointer (some ⟨b2,0,none⟩)],args:=#[] } :: (a1.put (some td1) cl).defers } w1 [] F1 γ1:=by
  refine ⟨hip.n,?_,hip.step,hip.mem,hip.sl,hip.hg,fun t=>?_⟩
  ·show _ :: (a1.put (some td1) cl).defers=D
   rw [show (a1.put (some td1) cl).defers=a1.defers from rfl,hi.df]
  ·show qy P w1 F1 (qn s.mem γ1) (if t=0 then .c (.ptr i 0) else if t=1 then .c (.ptr j 0) else .dead) (if t=0 then .pointer (some ⟨b1,0,none⟩) else .pointer (some ⟨b2,0,none⟩))
   by_cases ht0:t=0
   ·rw [if_pos ht0,if_pos ht0]
    exact ⟨rfl,b1,hR1,rfl⟩
   ·rw [if_neg ht0,if_neg ht0]
    by_cases ht1':t=1
    ·rw [if_pos ht1']
     exact ⟨rfl,b2,hR2,rfl⟩
    ·rw [if_neg ht1']
     trivial
 have hwp:=hR E2 _ _ ht2 _ (qm5 hr' hok) _ _ ⟨F1,γ1,hi'⟩
 refine wp_mono hwp ?_
 rintro e a2 w2 ⟨xe,s2,rfl,⟨F2,γ2,hi2⟩,hx⟩
 have hinv:∀ W,(invoke (.fn (.func f0) #[.pointer (some ⟨b1,0,none⟩),.pointer (some ⟨b2,0,none⟩)]) #[]).run P W = .ok (.enter f0 #[.pointer (some ⟨b1,0,none⟩),.pointer (some ⟨b2,0,none⟩)]) W:=fun W=>by
  have:=hT.enter #[.pointer (some ⟨b1,0,none⟩),.pointer (some ⟨b2,0,none⟩)] W
  simp [invoke,this]
 have hdf:a2.defers=[{ target:=.fn (.func f0) #[.pointer (some ⟨b1,0,none⟩),.pointer (some ⟨b2,0,none⟩)],args:=#[] }]:=hi2.df
 have hfin:(∃ n,qa2 P fn.results.toList rs s2=some (Fr.needL n (.val (fr xs).get))/\qq n)->Leaves P fn a2.tmps (qdw w F rs (fr xs).get) a2.defers .returning w2:=by
  rintro ⟨n,hend,hn⟩
  rw [hdf]
  refine leaves_cons (by simp) (hinv w2) ((hT.idle _ _ w2).mono ?_)
  rintro e u' w' ⟨⟨v,rfl⟩,rfl,rfl⟩
  exact qig hi2 rfl hend hn
 cases xe with
 |normal=>exact hfin hx
 |ret=>exact hfin hx
 |exit _=>exact hx.elim
 |val _=>exact hx.elim
 |jump _=>exact hx.elim
 |panic p=>
  obtain ⟨s',n,hs',hin,hend,hn⟩:=hx
  obtain ⟨hty,hk,c1,c2,t1,t2,o1,o2,hG1,hG2,hne,hh1,hs1,hh2,hs2,hi3⟩:=zza hi2 hs' hin
  have hG1':(Value.pointer (some ⟨b1,0,none⟩)) = .pointer (some ⟨c1,0,none⟩):=hG1
  have hG2':(Value.pointer (some ⟨b2,0,none⟩)) = .pointer (some ⟨c2,0,none⟩):=hG2
  simp only [Value.pointer.injEq,Option.some.injEq,Addr.mk.injEq,and_true] at hG1' hG2'
  subst hG1'
  subst hG2'
  show Leaves P fn a2.tmps _ a2.defers (.panicking [{ v:=p.val,recovered:=false }]) w2
  rw [PV.val_high hty,hdf,hk]
  refine leaves_cons (by simp) (hinv w2) ((hT.told b1 b2 t1 t2 o1 o2 p.n w2 hne hh1 hs1 hh2 hs2).mono ?_)
  rintro e u' w' ⟨⟨v,rfl⟩,rfl,hsw⟩
  exact qig (ycg hi3 hsw) rfl hend hn
end
end Go.Ab

namespace Go.Ab
open Go Go.RowKit
section
variable {P:Program} {w w':World} {F:Nat->Prop}
theorem kb (w:World) (dT sT ty elem:TypeId) (k g o dLen dCap:Nat) (a:Addr) (sLen sCap:Nat) (cs:List Value) (cur:Array Value) (t:TypeId)
  (hu:P.underlying dT=some (.slice elem)) (hs:(P.info? elem).map (·.size)=some k) (hn:cs.length=Nat.min sLen dLen * k)
  (hsrc:∀ j v,cs[j]? = some v->w.cell? (a.add j)=some v) (hg:w.heap[g]? = some (.cells cur t (0,0))) (hfit:o+cs.length<=cur.size) (h1:∀ v ∈ cs,v.oneCell'=true) :
  (Builtin.copy_ #[dT,sT] ty #[.slice (some ⟨g,o,none⟩) dLen dCap,.slice (some a) sLen sCap]).run P w = .ok (goInt (Nat.min sLen dLen)) (w.setRow g (cur.toList.take o++cs++cur.toList.drop (o+cs.length)).toArray):=by
 have hl:=run_loadCells_list (P:=P) w a cs hsrc
 have hst:=run_storeCells_at P g o t cs 0 cur w hg (by simpa using hfit) h1
 simp only [Nat.add_zero] at hst
 cases hq:P.info? elem with
 |none=>simp [hq] at hs
 |some i=>
  have hi:i.size=k:=by simpa [hq] using hs
  simp [Builtin.copy_,run_underlying hu,Builtin.lenOf,Builtin.firstCells,sizeOf,typeInfo,hq,hi,← hn,hl,hst]
theorem yd0 {α:Type} (l m:List α) (p q:Nat) (h:p<=q) (hq:q<=l.length):(l.take q++m).take p=l.take p:=by
 rw [List.take_append_of_le_length (by simp; omega),List.take_take,Nat.min_eq_left h]
theorem qut {α:Type} (cur xs news:List α) (q p k:Nat) (hx:cur.take q=xs) (hl:q+k<=cur.length) (hp:p<=q) (hn:news.length=k) (C1 C2:List α)
  (h1:C1=cur.take (p+k)++xs.drop p++cur.drop (p+k+(xs.drop p).length)) (h2:C2=C1.take p++news++C1.drop (p+news.length)) :
  C1.length=cur.length/\C2.length=cur.length/\C2.take (q+k)=xs.take p++news++xs.drop p:=by
 have hxl:xs.length=q:=by rw [← hx,List.length_take]; omega
 have hd:(xs.drop p).length=q - p:=by rw [List.length_drop,hxl]
 have hc1:C1.length=cur.length:=by rw [h1]; simp only [List.length_append,List.length_take,List.length_drop,hxl]; omega
 have e1:C1.take p=xs.take p:=by
  rw [h1,List.append_assoc,yd0 cur _ p (p+k) (by omega) (by omega),← hx,List.take_take,Nat.min_eq_left hp]
 have e2:C1.drop (p+k)=xs.drop p++cur.drop (p+k+(xs.drop p).length):=by
  rw [h1,List.append_assoc]
  exact List.drop_left' (by rw [List.length_take]; omega)
 rw [hn,e1,e2] at h2
 refine ⟨hc1,?_,?_⟩
 ·rw [h2]; simp only [List.length_append,List.length_take,List.length_drop,hxl,hn]; omega
 ·rw [h2,← List.append_assoc]
  exact List.take_left' (by simp only [List.length_append,List.length_take,List.length_drop,hxl,hn]; omega)
theorem qyh {α:Type} (row xs news:List α) (q p k:Nat) (hxl:xs.length=q) (hp:p<=q) (hx:row.take p=xs.take p) (hl:q+k<=row.length) (hn:news.length=k) (C1 C2:List α)
  (h1:C1=row.take p++news++row.drop (p+news.length)) (h2:C2=C1.take (p+k)++xs.drop p++C1.drop (p+k+(xs.drop p).length)) :
  C1.length=row.length/\C2.length=row.length/\C2.take (q+k)=xs.take p++news++xs.drop p:=by
 have hd:(xs.drop p).length=q - p:=by rw [List.length_drop,hxl]
 have hc1:C1.length=row.length:=by rw [h1]; simp only [List.length_append,List.length_take,List.length_drop,hn]; omega
 have e1:C1.take (p+k)=xs.take p++news:=by
  rw [h1,hx]
  exact List.take_left' (by simp only [List.length_append,List.length_take,hxl,hn]; omega)
 have hc2:C2.length=row.length:=by rw [h2]; simp only [List.length_append,List.length_take,List.length_drop,hc1,hxl]; omega
 refine ⟨hc1,hc2,?_⟩
 rw [h2,e1]
 exact List.take_left' (by simp only [List.length_append,List.length_take,List.length_drop,hxl,hn]; omega)
end
theorem zbn {P:Program} (w:World) {o:Oper} {a:Act} {K:Act->World->Prop} {Q:Exit->Act->World->Prop} (d s:Operand) (t t':TypeId)
  (ho:o.op = .call { callee:=.builtin .copy,args:=#[d,s],argTypes:=#[t,t'] }) (v u:Value) (hd:a.eval d=v) (hs:a.eval s=u) {v':Value} {w':World}
  (hr:(Builtin.copy_ #[t,t'] o.type #[v,u]).run P w = .ok v' w') (h:K (a.put o.dst v') w'):o.wp P a w K Q:=by
 unfold Oper.wp execOp
 simp only [ho,resolve,invoke,builtin,Sem.run_bind,Sem.run_pure,Result.andThen_ok,List.map_toArray,List.map_cons,List.map_nil,hd,hs,hr]
 exact h
theorem wu {P:Program} (w:World) {ops:Array Oper} {rest:List Oper} {o:Oper} {a:Act} {Q:Exit->Act->World->Prop} (hgd:o.guard=none) (d s:Operand) (t t':TypeId)
  (ho:o.op = .call { callee:=.builtin .copy,args:=#[d,s],argTypes:=#[t,t'] }) (v u:Value) (hd:a.eval d=v) (hs:a.eval s=u) {v':Value} {w':World}
  (hr:(Builtin.copy_ #[t,t'] o.type #[v,u]).run P w = .ok v' w') (h:wpList P ops Q rest (a.put o.dst v') w'):wpList P ops Q (o :: rest) a w:=
 wpList_plain hgd fun _ hK=>zbn w d s t t' ho v u hd hs hr (hK _ _ h)
theorem qen {P:Program} {ops:Array Oper} {o:Oper} {a:Act} {w:World} {K:Act->World->Prop} {Q:Exit->Act->World->Prop} {E:Prop}
  (hg:o.guard=none) (d x:Operand) (dT sT:TypeId) (hop:o.op=Op.call { callee:=Callee.builtin Builtin.copy,args:=#[d,x],argTypes:=#[dT,sT] })
  (v u:Value) (hd:a.eval d=v) (hx:a.eval x=u) {v':Value} {w':World} (hr:(Builtin.copy_ #[dT,sT] o.type #[v,u]).run P w = .ok v' w') (hK:K (a.put o.dst v') w') :
  if Region.wanted o (yielded ops a.tmps)=true then Oper.wp P o a w K Q else E:=by
 have hw:Region.wanted o (yielded ops a.tmps)=true:=by simp [Region.wanted,hg]
 rw [if_pos hw]
 exact zbn w d x dT sT hop v u hd hx hr hK
theorem wh {w:World} {g q:Nat} {cur:Array Value} {t:TypeId} {xs:List Value} (hg:w.heap[g]? = some (.cells cur t (0,0))) (ht:cur.toList.take q=xs) {j:Nat} {v:Value} (hj:xs[j]? = some v):w.cell? ⟨g,j,none⟩=some v:=by
 rw [cell_of_row w g j cur t (0,0) hg]
 rw [← ht,List.getElem?_take] at hj
 split at hj
 ·simpa using hj
 ·cases hj
end Go.Ab
namespace Go.Proofs.YtgieagiaagoogaaGreat
open Go Go.Ab Go.RowKit Go.Proofs Go.Shelf Go.Lib
set_option maxRecDepth 100000 in
theorem zkr:(Tryz.prog.info? 56).map (fun i=>(i.zero,i.size,i.bytes))=some (some (.agg #[.int .i64 0,.int .i64 0,.int .i64 0,.int .i64 0,.int .i64 0,.int .i64 0,.int .i64 0,.int .i64 0,.slice none 0 0,.slice none 0 0,.int .i64 0]),11,120):=by kernel_rfl
set_option maxHeartbeats 4000000 in
set_option maxRecDepth 100000 in
theorem yca (w:World) (B n:Nat) (s v:Value) (xs news:List Value) (hB:B<=w.heap.size) (hs:w.ownsRow B 56 11 s n xs) (hv:w.ownsRow B 56 11 v 1 news) (h1:∀ u ∈ news,u.oneCell'=true) (h63:n+1<=maxLen) (hby:(n+1) * 120<=140737488355328) :
  Calls Tryz.prog 261 #[s,.int .i64 n,v] w fun en w'=>∃ v',en = .returned v'/\w.grownBy w' s.ownBlock/\w'.ownsRow B 56 11 v' (n+1) (xs++news)/\(v'.ownBlock=s.ownBlock ∨ v'.ownBlock=some w.heap.size):=by
 obtain ⟨i0,hi0,hz0,hz1,hz2⟩:=info_parts zkr
 obtain ⟨vb,vc,vcur,rfl,hvb,hvg,hv1,hv2,hv3,hv4⟩:∃ g cap cur,v = .slice (some ⟨g,0,none⟩) 1 cap/\B<=g/\w.heap[g]? = some (.cells cur 56 (0,0))/\1<=cap/\cap<=maxLen/\cur.size=cap * 11/\cur.toList.take (1 * 11)=news:=by
  rcases hv.2 with ⟨_,h0⟩ | h'
  ·exact absurd h0 (by omega)
  ·exact h'
 obtain ⟨v',w',hr,e2,e3,e4⟩:=qci (P:=Tryz.prog) (w:=w) (B:=B) 25 25 56 i0 _ 11 Tryz.underlying25 hi0 hz0 hz1 rfl (by decide) s n xs hs (some ⟨vb,0,none⟩) 1 vc news (fun h=>by cases h) hv.1 (fun ad e=>by cases e; exact hv.cells rfl) h1 h63 (by rw [hz2]; exact hby) hB
 have hr':∀ ty,(Builtin.append_ #[25,25] ty #[s,.slice (some ⟨vb,0,none⟩) 1 vc]).run Tryz.prog w = .ok v' w':=fun ty=>hr
 have hn:(n:Int)<=9223372036854775807:=by unfold maxLen at h63; omega
 clear hr
 go_enter Tryz.func261,Tryz.ntmps261
 rcases hs.2 with ⟨rfl,rfl⟩ | ⟨g,cap,cur,rfl,hbg,hg,hnc,hcm,hcs,htake⟩
 ·go_wp2_with (at_builtin; refine Lib.wpList_append_run _ rfl _ _ _ _ rfl _ _ rfl rfl _ _ (hr' _) ?_)
  go_ret
  exact ⟨_,rfl,e3,e2,e4⟩
 ·go_wp2_with (at_builtin; refine Lib.wpList_append_run _ rfl _ _ _ _ rfl _ _ rfl rfl _ _ (hr' _) ?_)
  all_goals (go_ret; exact ⟨_,rfl,e3,e2,e4⟩)
set_option maxHeartbeats 4000000 in
set_option maxRecDepth 100000 in
theorem zsx (w:World) (n i g cap vb vc:Nat) (cur:Array Value) (xs news:List Value) (hi:i < n) (hg:w.heap[g]? = some (.cells cur 56 (0,0))) (hcs:cur.size=cap * 11) (hroom:n+1<=cap) (hcm:cap<=maxLen) (htake:cur.toList.take (n * 11)=xs)
  (vcur:Array Value) (hvg:w.heap[vb]? = some (.cells vcur 56 (0,0))) (hne:vb ≠ g) (hnl:news.length=11) (hvt:vcur.toList.take 11=news) (hvc:1<=vc) (hvs:vcur.size=vc * 11) (h1x:∀ u ∈ xs,u.oneCell'=true) (h1:∀ u ∈ news,u.oneCell'=true) :
  Calls Tryz.prog 261 #[.slice (some ⟨g,0,none⟩) n cap,.int .i64 i,.slice (some ⟨vb,0,none⟩) 1 vc] w fun en w'=>∃ cur',en = .returned (.slice (some ⟨g,0,none⟩) (n+1) cap)/\w'=w.drew.setRow g cur'/\cur'.size=cur.size/\cur'.toList.take ((n+1) * 11)=xs.take (i * 11)++news++xs.drop (i * 11):=by
 have hc63:cap<=9223372036854775807:=by unfold maxLen at hcm; omega
 have hz2:¬ ((i:Int)=(n:Int)):=by omega
 have hw1:IntKind.i64.wrap ((i:Int)+(1:Int))=(i:Int)+(1:Int):=by rw [IntKind.wrap_i64]; omega
 have hb1:(0:Int)<=(i:Int)+(1:Int):=by omega
 have htn:((i:Int)+(1:Int)).toNat=i+1:=by omega
 have hin:i<=n:=by omega
 have hb2:¬ (cap=i+1):=by omega
 have hb3:(i:Int)<=(n:Int)+(1:Int):=by omega
 have hb4:¬ (cap=i):=by omega
 have hov:∀ lb cb,(callFunc 263 #[.slice (some ⟨vb,0,none⟩) 1 vc,.slice (some ⟨g,(i+1) * 11,none⟩) lb cb]).run Tryz.prog w = .ok (.value (.bool false)) w:=fun lb cb=>by
  rw [run_callFunc_extern Tryz.func263 (by kernel_rfl) (by kernel_rfl) (by kernel_rfl) (e:=Extern.SlicesOverlaps.overlaps #[25,25] #[4]) (by kernel_rfl),
   Lib.run_overlaps_apart w 25 4 56 Tryz.underlying25 11 (fun w=>by kernel_rfl) ⟨vb,0,none⟩ ⟨g,(i+1) * 11,none⟩ 1 vc lb cb hne 56 56 vcur.size cur.size (by simp [World.shape?,hvg]) (by simp [World.shape?,hg]) (by omega) (by simp [World.frozen?,hvg]) (by simp [World.frozen?,hvg])]
  rfl
 have hsz:(Tryz.prog.info? 56).map (·.size)=some 11:=by kernel_rfl
 have hxl:xs.length=n * 11:=by rw [← htake,List.length_take,Array.length_toList]; omega
 have hdl:(xs.drop (i * 11)).length=(n - i) * 11:=by rw [List.length_drop,hxl]; omega
 obtain ⟨C1,hC1⟩:∃ C1:Array Value,C1=(cur.toList.take ((i+1) * 11)++xs.drop (i * 11)++cur.toList.drop ((i+1) * 11+(xs.drop (i * 11)).length)).toArray:=⟨_,rfl⟩
 obtain ⟨C2,hC2⟩:∃ C2:Array Value,C2=(C1.toList.take (i * 11)++news++C1.toList.drop (i * 11+news.length)).toArray:=⟨_,rfl⟩
 obtain ⟨k1,k2,k3⟩:=qut cur.toList xs news (n * 11) (i * 11) 11 htake (by simp only [Array.length_toList]; omega) (by omega) hnl C1.toList C2.toList (by rw [hC1]; simp only [show i * 11+11=(i+1) * 11 by omega]) (by rw [hC2])
 have hcp1:∀ ty dc sc,(Builtin.copy_ #[25,25] ty #[.slice (some ⟨g,(i+1) * 11,none⟩) (n - i) dc,.slice (some ⟨g,i * 11,none⟩) (n+1 - i) sc]).run Tryz.prog w.drew = .ok (goInt (Nat.min (n+1 - i) (n - i))) (w.drew.setRow g C1):=fun ty dc sc=>by
  rw [hC1]
  exact kb w.drew _ _ ty 56 11 g ((i+1) * 11) (n - i) dc ⟨g,i * 11,none⟩ (n+1 - i) sc (xs.drop (i * 11)) cur 56 Tryz.underlying25 hsz (by rw [hdl,show Nat.min (n+1 - i) (n - i)=n - i from Nat.min_eq_right (by omega)])
   (fun j v hj=>by rw [Addr.add_lit]; exact wh (w:=w) hg htake (by rwa [List.getElem?_drop] at hj)) hg (by rw [hdl]; omega) (fun v hv=>h1x v (List.mem_of_mem_drop hv))
 have hcp2:∀ ty dc,(Builtin.copy_ #[25,25] ty #[.slice (some ⟨g,i * 11,none⟩) (n+1 - i) dc,.slice (some ⟨vb,0,none⟩) 1 vc]).run Tryz.prog (w.drew.setRow g C1) = .ok (goInt (Nat.min 1 (n+1 - i))) ((w.drew.setRow g C1).setRow g C2):=fun ty dc=>by
  rw [hC2]
  exact kb (w.drew.setRow g C1) _ _ ty 56 11 g (i * 11) (n+1 - i) dc ⟨vb,0,none⟩ 1 vc news C1 56 Tryz.underlying25 hsz (by rw [hnl,show Nat.min 1 (n+1 - i)=1 from Nat.min_eq_left (by omega)])
   (fun j v hj=>by
    rw [Addr.add_lit,Nat.zero_add]
    exact wh (q:=11) ((setRow_other w.drew g vb C1 hne).trans hvg) hvt hj) (setRow_heap w.drew g cur C1 _ _ hg) (by rw [hnl,← Array.length_toList,k1,Array.length_toList]; omega) h1
 rw [setRow_setRow] at hcp2
 have h1u:=h1
 clear hC1 hC2
 go_enter Tryz.func261,Tryz.ntmps261
 go_wp2_with (simp only [hov])
 go_region_law (refine qen rfl _ _ 25 25 rfl _ _ (by simp [Act.eval,Act.put]) (by simp [Act.eval,Act.put]) (hcp1 _ _ _) ?_)
 go_wp2_with (at_builtin; refine wu _ rfl _ _ 25 25 rfl _ _ rfl rfl (hcp2 _ _) ?_)
 go_ret
 exact ⟨C2,rfl,rfl,by rw [← Array.length_toList,k2,Array.length_toList],by rw [show (n+1) * 11=n * 11+11 by omega]; exact k3⟩
set_option maxHeartbeats 4000000 in
set_option maxRecDepth 100000 in
theorem zw9 (w:World) (n i g cap vb vc:Nat) (cur:Array Value) (xs news:List Value) (hi:i < n) (hg:w.heap[g]? = some (.cells cur 56 (0,0))) (hcs:cur.size=cap * 11) (hnc:n<=cap) (hroom:cap < n+1) (htake:cur.toList.take (n * 11)=xs)
  (vcur:Array Value) (hvg:w.heap[vb]? = some (.cells vcur 56 (0,0))) (hnl:news.length=11) (hvt:vcur.toList.take 11=news) (h1x:∀ u ∈ xs,u.oneCell'=true) (h1:∀ u ∈ news,u.oneCell'=true) (h63:n+1<=maxLen) (hby:(n+1) * 120<=140737488355328) :
  Calls Tryz.prog 261 #[.slice (some ⟨g,0,none⟩) n cap,.int .i64 i,.slice (some ⟨vb,0,none⟩) 1 vc] w fun en w'=>∃ G C,en = .returned (.slice (some ⟨w.heap.size,0,none⟩) (n+1) G)/\w.grownBy w' none/\w'.heap[w.heap.size]? = some (.cells C 56 (0,0))/\n+1<=G/\G<=maxLen/\C.size=G * 11/\C.toList.take ((n+1) * 11)=xs.take (i * 11)++news++xs.drop (i * 11):=by
 have h63':n+1<=9223372036854775807:=by unfold maxLen at h63; omega
 obtain ⟨i0,hi0,hz0,hz1,hz2⟩:=info_parts zkr
 have hsz:(Tryz.prog.info? 56).map (·.size)=some 11:=by kernel_rfl
 have hxl:xs.length=n * 11:=by rw [← htake,List.length_take,Array.length_toList]; omega
 have hdl:(xs.drop (i * 11)).length=(n - i) * 11:=by rw [List.length_drop,hxl]; omega
 have hgw:g < w.heap.size:=(Array.getElem?_eq_some_iff.1 hg).1
 have hvw:vb < w.heap.size:=(Array.getElem?_eq_some_iff.1 hvg).1
 have hkk:(n:Int)+1 - (i:Int)=((n+1 - i:Nat):Int):=by omega
 have hik:i+(n+1 - i)=n+1:=by omega
 have hold:(Builtin.firstCells i0.size i (.slice (some ⟨g,0,none⟩) i cap)).run Tryz.prog w.drew = .ok (xs.take (i * 11)).toArray w.drew:=by
  rw [hz1]
  exact run_firstCells_some w.drew 11 i ⟨g,0,none⟩ i cap (xs.take (i * 11)) (by rw [List.length_take]; omega) (fun j v hj=>by
   rw [Addr.add_lit,Nat.zero_add]
   rw [List.getElem?_take] at hj
   split at hj
   ·exact wh (w:=w) hg htake hj
   ·cases hj)
 obtain ⟨G,hG⟩:∃ G,G=grownCap w (n+1) cap 56:=⟨_,rfl⟩
 have hGn:n+1<=G:=by rw [hG]; exact grownCap_ge w _ _ _
 have hGm:G<=maxLen:=by rw [hG]; exact grownCap_le_maxLen w _ _ _ h63
 obtain ⟨Z,hZ⟩:∃ Z:Array Value,Z=(Value.agg #[.int .i64 0,.int .i64 0,.int .i64 0,.int .i64 0,.int .i64 0,.int .i64 0,.int .i64 0,.int .i64 0,.slice none 0 0,.slice none 0 0,.int .i64 0]).cells:=⟨_,rfl⟩
 have hZ9:Z.size=11:=by rw [hZ]; rfl
 obtain ⟨ROW,hROW⟩:∃ ROW:Array Value,ROW=(xs.take (i * 11)).toArray++Builtin.zeroCells Z (n+1 - i)++Builtin.zeroCells Z (G - (n+1)):=⟨_,rfl⟩
 have hrz:∀ ty,(Builtin.append_ #[25,3] ty #[.slice (some ⟨g,0,none⟩) i cap,.int .i64 ((n:Int)+1 - (i:Int))]).run Tryz.prog w =
   .ok (.slice (some ⟨w.heap.size,0,none⟩) (n+1) G) (w.drew.alloc (.cells ROW 56)):=fun ty=>by
  have h:=Lib.run_append_grow_zeros w 25 3 ty 56 i0 _ .i64 .i64 Tryz.underlying25 Tryz.underlying3 hi0 hz0 (some ⟨g,0,none⟩) i cap (xs.take (i * 11)) hold (n+1 - i) (by omega) (by omega) (by omega) (by omega) (by rw [hz2]; omega) (by rw [hz2,hik]; exact growslice_fits hroom hby)
  rw [hik,← hG,← hZ,← hROW] at h
  rw [hkk]
  exact h
 have hRs:ROW.size=G * 11:=by
  rw [hROW]
  simp only [Array.size_append,List.size_toArray,size_zeroCells,hZ9,List.length_take,hxl]
  omega
 have hRt:ROW.toList.take (i * 11)=xs.take (i * 11):=by
  rw [hROW,Array.toList_append,Array.toList_append,List.append_assoc]
  exact List.take_left' (by rw [List.length_take]; omega)
 obtain ⟨C1,hC1⟩:∃ C1:Array Value,C1=(ROW.toList.take (i * 11)++news++ROW.toList.drop (i * 11+news.length)).toArray:=⟨_,rfl⟩
 obtain ⟨C2,hC2⟩:∃ C2:Array Value,C2=(C1.toList.take ((i+1) * 11)++xs.drop (i * 11)++C1.toList.drop ((i+1) * 11+(xs.drop (i * 11)).length)).toArray:=⟨_,rfl⟩
 obtain ⟨k1,k2,k3⟩:=qyh ROW.toList xs news (n * 11) (i * 11) 11 hxl (by omega) hRt (by rw [Array.length_toList]; omega) hnl C1.toList C2.toList (by rw [hC1]) (by rw [hC2]; simp only [show i * 11+11=(i+1) * 11 by omega])
 have hnew:(w.drew.alloc (.cells ROW 56)).heap[w.heap.size]? = some (.cells ROW 56 (0,0)):=heap_alloc_new w.drew _
 have hcpA:∀ ty dc,(Builtin.copy_ #[25,25] ty #[.slice (some ⟨w.heap.size,i * 11,none⟩) (n+1 - i) dc,.slice (some ⟨vb,0,none⟩) 1 vc]).run Tryz.prog (w.alloc (.cells ROW 56)).drew = .ok (goInt (Nat.min 1 (n+1 - i))) ((w.alloc (.cells ROW 56)).drew.setRow w.heap.size C1):=fun ty dc=>by
  rw [hC1]
  exact kb _ _ _ ty 56 11 w.heap.size (i * 11) (n+1 - i) dc ⟨vb,0,none⟩ 1 vc news ROW 56 Tryz.underlying25 hsz (by rw [hnl,show Nat.min 1 (n+1 - i)=1 from Nat.min_eq_left (by omega)])
   (fun j v hj=>by
    rw [Addr.add_lit,Nat.zero_add]
    exact wh (q:=11) ((yg w.drew _ vb hvw).trans hvg) hvt hj) hnew (by omega) h1
 have hcpB:∀ ty dc sc,(Builtin.copy_ #[25,25] ty #[.slice (some ⟨w.heap.size,(i+1) * 11,none⟩) (n - i) dc,.slice (some ⟨g,i * 11,none⟩) (n - i) sc]).run Tryz.prog ((w.alloc (.cells ROW 56)).drew.setRow w.heap.size C1).drew = .ok (goInt (Nat.min (n - i) (n - i))) (((w.alloc (.cells ROW 56)).drew.setRow w.heap.size C1).drew.setRow w.heap.size C2):=fun ty dc sc=>by
  rw [hC2]
  exact kb _ _ _ ty 56 11 w.heap.size ((i+1) * 11) (n - i) dc ⟨g,i * 11,none⟩ (n - i) sc (xs.drop (i * 11)) C1 56 Tryz.underlying25 hsz (by rw [hdl,show Nat.min (n - i) (n - i)=n - i from Nat.min_self _])
   (fun j v hj=>by
    rw [Addr.add_lit]
    exact wh (q:=n * 11) (((setRow_other (w.alloc (.cells ROW 56)).drew w.heap.size g C1 (by omega)).trans (yg w.drew _ g hgw)).trans hg) htake (by rwa [List.getElem?_drop] at hj))
   (setRow_heap (w.alloc (.cells ROW 56)).drew w.heap.size ROW C1 _ _ hnew) (by rw [hdl,← Array.length_toList,k1,Array.length_toList]; omega) (fun v hv=>h1x v (List.mem_of_mem_drop hv))
 have hz2:¬ ((i:Int)=(n:Int)):=by omega
 have hz3:(cap:Int) < (n:Int)+(1:Int):=by omega
 have hGi:¬ (G=i):=by omega
 have hGim:¬ (G=i+1):=by omega
 have hci:¬ (cap=i):=by omega
 have hw1:IntKind.i64.wrap ((i:Int)+(1:Int))=(i:Int)+(1:Int):=by rw [IntKind.wrap_i64]; omega
 have hb1:(0:Int)<=(i:Int)+(1:Int):=by omega
 have hin:i<=n:=by omega
 have htn:((i:Int)+(1:Int)).toNat=i+1:=by omega
 have hb3:(i:Int)<=(n:Int):=by omega
 have hG63:G<=9223372036854775807:=by unfold maxLen at hGm; omega
 clear hkk hik hold hROW hC1 hC2 hG hRt hZ
 go_enter Tryz.func261,Tryz.ntmps261
 go_wp2_with (first
  |(at_builtin; refine Lib.wpList_append_run _ rfl _ _ _ _ rfl _ _ rfl rfl _ _ (hrz _) ?_)
  |(at_builtin; refine wu _ rfl _ _ 25 25 rfl _ _ rfl rfl (hcpA _ _) ?_)
  |(at_builtin; refine wu _ rfl _ _ 25 25 rfl _ _ rfl rfl (hcpB _ _ _) ?_))
 go_region_law (refine qen rfl _ _ 25 25 rfl _ _ (by simp [Act.eval,Act.put]) (by simp [Act.eval,Act.put]) (hcpB _ _ _) ?_)
 go_wp2
 go_ret
 refine ⟨G,C2,rfl,⟨rfl,rfl,rfl,?_,fun k hk _=>?_⟩,?_,hGn,hGm,by rw [← Array.length_toList,k2,Array.length_toList,hRs],by rw [show (n+1) * 11=n * 11+11 by omega]; exact k3⟩
 ·simp
 ·exact (setRow_other ((w.alloc (.cells ROW 56)).drew.setRow w.heap.size C1).drew w.heap.size k C2 (by omega)).trans ((setRow_other (w.alloc (.cells ROW 56)).drew w.heap.size k C1 (by omega)).trans (yg w _ k hk))
 ·exact setRow_heap ((w.alloc (.cells ROW 56)).drew.setRow w.heap.size C1).drew w.heap.size C1 C2 _ _ (setRow_heap (w.alloc (.cells ROW 56)).drew w.heap.size ROW C1 _ _ hnew)
theorem yid:InsOK Tryz.prog 261 56 ze 120:=by
 refine ⟨enters_of Tryz.func261 (by kernel_rfl) rfl,fun w B n i s v xs news hB hs hv hne hi h1x h1 h63 hby=>?_⟩
 rcases Nat.lt_or_ge i n with hin | hin
 ·obtain ⟨vb,vc,vcur,rfl,hvb,hvg,hv1,hv2,hv3,hv4⟩:∃ g cap cur,v = .slice (some ⟨g,0,none⟩) 1 cap/\B<=g/\w.heap[g]? = some (.cells cur 56 (0,0))/\1<=cap/\cap<=maxLen/\cur.size=cap * ze.size/\cur.toList.take (1 * ze.size)=news:=by
   rcases hv.2 with ⟨_,h0⟩ | h'
   ·exact absurd h0 (by omega)
   ·exact h'
  rcases hs.2 with ⟨rfl,h0⟩ | ⟨g,cap,cur,rfl,hbg,hg,hnc,hcm,hcs,htake⟩
  ·omega
  ·have hne':vb ≠ g:=fun e=>hne vb rfl (by rw [e]; rfl)
   rcases Nat.lt_or_ge cap (n+1) with hr | hr
   ·refine (zw9 w n i g cap vb vc cur xs news hin hg hcs hnc hr htake vcur hvg hv.1 hv4 h1x h1 h63 hby).mono fun en w' hp=>?_
    obtain ⟨G,C,rfl,hgr,hh,a1,a2,a3,a4⟩:=hp
    refine ⟨_,rfl,⟨hgr.os,hgr.tape,hgr.output,hgr.size,fun k hk _=>hgr.block k hk (by simp)⟩,⟨?_,.inr ⟨_,_,_,rfl,hB,hh,a1,a2,a3,a4⟩⟩,.inr rfl⟩
    show (xs.take (i * 11)++news++xs.drop (i * 11)).length=(n+1) * 11
    rw [← a4,List.length_take,Array.length_toList,a3]
    exact Nat.min_eq_left (Nat.mul_le_mul_right _ a1)
   ·refine (zsx w n i g cap vb vc cur xs news hin hg hcs hr hcm htake vcur hvg hne' hv.1 hv4 hv1 hv3 h1x h1).mono fun en w' hp=>?_
    obtain ⟨cur',rfl,rfl,a3,a4⟩:=hp
    have a5:cur'.size=cap * 11:=a3.trans hcs
    refine ⟨_,rfl,⟨rfl,rfl,rfl,by simp,fun k _ hk=>setRow_other w.drew g k _ (fun e=>hk (by simp [Value.ownBlock,e]))⟩,⟨?_,.inr ⟨g,cap,cur',rfl,hbg,setRow_heap w.drew g cur cur' _ _ hg,hr,hcm,a5,a4⟩⟩,.inl rfl⟩
    show (xs.take (i * 11)++news++xs.drop (i * 11)).length=(n+1) * 11
    rw [← a4,List.length_take,Array.length_toList,a5]
    exact Nat.min_eq_left (Nat.mul_le_mul_right _ hr)
 ·have he:i=n:=by omega
  subst he
  refine (yca w B i s v xs news hB hs hv h1 h63 hby).mono fun en w' hp=>?_
  obtain ⟨v',rfl,a1,a2,a3⟩:=hp
  refine ⟨v',rfl,a1,?_,a3⟩
  have hx:xs.length=i * ze.size:=hs.1
  rw [List.take_of_length_le (by omega),List.drop_eq_nil_of_le (by omega),List.append_nil]
  exact a2
set_option maxHeartbeats 4000000 in
set_option maxRecDepth 100000 in
theorem zrd:CloneOK Tryz.prog 262 56 ze 120:=by
 refine ⟨enters_of Tryz.func262 (by kernel_rfl) rfl,fun w n c A xs hnc hA hxl hxc h1 h63 hby=>?_⟩
 obtain ⟨i0,hi0,hz0,hz1,hz2⟩:=info_parts zkr
 have hcmp:∀ (A:Option Addr) (n c:Nat),(binOp .eql 25 (.slice A n c) (.slice none 0 0)).run Tryz.prog w = .ok (.bool A.isNone) w:=fun A n c=>by
  have h1:binOp .eql 25 (.slice A n c) (.slice none 0 0)=(do pure (.bool (← Op.equal 25 (.slice A n c) (.slice none 0 0)))):=rfl
  have h2:Op.equal 25 (.slice A n c) (.slice none 0 0)=Op.equalIn (9999+1) 25 (.slice A n c) (.slice none 0 0):=rfl
  rw [h1,h2]
  simp [qlp Tryz.underlying25]
 go_enter Tryz.func262,Tryz.ntmps262
 cases A with
 |none=>
  have h0:=hA rfl
  subst h0
  have hx:xs=[]:=List.eq_nil_of_length_eq_zero (by simpa using hxl)
  subst hx
  go_wp2_with (simp only [hcmp])
  go_ret
  exact ⟨_,rfl,⟨rfl,rfl,rfl,Nat.le_refl _,fun _ _ _=>rfl⟩,World.ownsRow_nil _ _ _ _⟩
 |some ad=>
  have hW:(w.alloc (.cells #[] 56)).ownsRow w.heap.size 56 11 (.slice (some ⟨w.heap.size,0,none⟩) 0 0) 0 []:=World.ownsRow_lit w #[] 0 (Nat.le_refl _) (by unfold maxLen; omega) rfl
  have hcell:∀ (j:Nat) u,xs[j]? = some u->(w.alloc (.cells #[] 56)).cell? (ad.add j)=some u:=fun j u hj=>by
   have h:=hxc ad rfl j u hj
   have hb:=block_lt_of_cell h
   rw [World.cell?_of_block (yg w _ _ hb)]
   exact h
  obtain ⟨v',w',hr,e2,e3,e4⟩:=qci (P:=Tryz.prog) (w:=w.alloc (.cells #[] 56)) (B:=w.heap.size) 25 25 56 i0 _ 11 Tryz.underlying25 hi0 hz0 hz1 rfl (by decide) _ 0 [] hW (some ad) n c xs (fun h=>by cases h) hxl (fun ad' e=>by cases e; exact hcell) h1 (by rw [Nat.zero_add]; exact h63) (by rw [hz2,Nat.zero_add]; exact hby) (by simp)
  have hr':∀ ty,(Builtin.append_ #[25,25] ty #[.slice (some ⟨w.heap.size,0,none⟩) 0 0,.slice (some ad) n c]).run Tryz.prog (w.alloc (.cells #[] 56)) = .ok v' w':=fun ty=>hr
  clear hr
  go_wp2_with (first | (simp only [hcmp]; done) | simp only [hcmp] | (at_builtin; refine Lib.wpList_append_run _ rfl _ _ _ _ rfl _ _ rfl rfl _ _ (hr' _) ?_))
  go_ret
  rw [Nat.zero_add,List.nil_append] at e2
  refine ⟨v',rfl,⟨e3.os,e3.tape,e3.output,Nat.le_trans (by simp) e3.size,fun k hk _=>(e3.block k (by simp; omega) (fun e=>?_)).trans (yg w _ k hk)⟩,e2⟩
  have:k=w.heap.size:=by simpa [Value.ownBlock] using e
  omega
end Go.Proofs.YtgieagiaagoogaaGreat
