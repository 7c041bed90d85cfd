/-
  Parts of the proof, one behind the other: I20, I21, I22, I23, I12, I13, I24, I25, I15, I26, I27, I29, I30, K1, S1, S5, AbG, S2, S3.
-/
import Derived.Test.YtgieagiaagoogaaGreatMe
import Derived.Defers
import Derived.MapKept
import Derived.Carry
import Derived.WalkKit
import Derived.RangeFuncNested
import Derived.Lib.Overlaps
import Derived.Lib.AppendZerosOnto
import Derived.Laws.NewBlocks
import Derived.Deep.RegionLaw
set_option linter.all false
abbrev uc1:=@Go.Addr.add_lit
abbrev uce:=@Go.Lib.wpList_append_run
abbrev uch:=@Go.heap_setCell_other
abbrev uco:=@Go.heap_setCell_same
abbrev ucp:=@ne_of_beq_false
abbrev ucq:=@Go.info_parts
abbrev ud3:=@List.getElem?_of_mem
abbrev udf:=@Go.Proofs.Tryz.underlying25
abbrev udg:=@Go.Proofs.Tryz.underlying26
abbrev uer:=@List.getElem_mem
abbrev ues:=@List.not_mem_nil
abbrev ufm:=@Go.Proofs.Tryz.func261
abbrev ufn:=@Go.block_lt_of_cell
abbrev ufo:=@Go.Proofs.Tryz.func278
abbrev ugg:=@List.map_nil
abbrev ugh:=@Go.run_callFunc_extern
abbrev ugi:=@Go.Lib.run_overlaps_apart
abbrev ugj:=@Nat.min_eq_right
abbrev ugk:=@Go.setRow_setRow
abbrev ugl:=@Go.run_firstCells_some
abbrev ugm:=@Go.Lib.run_append_grow_zeros
namespace Go.Proofs.YtgieagiaagoogaaGreat
open Go Go.Ab Go.RowKit Go.Proofs Go.Shelf
attribute [local go_sem] Oper.semAt_some
def yqb (w:World) (F:Nat->Prop) (day:Int) (x:Nat->qw.den) (fr:Nat->Int) (len:Nat) (e:Ending) (w':World):Prop:=
 (e = .returned (.tuple #[.agg qf5,.int .i64 7])/\∀ k,k<len->¬ fr k<=day) ∨
 ∃ k d F',k<len/\fr k<=day/\(∀ j,k<j->j<len->¬ fr j<=day)/\e = .returned (.tuple #[qh9 d,.int .i64 0])/\zv w' F' qw (x k) (qh9 d)/\(∀ b,F' b->(F b∨w.heap.size<=b)/\b<w'.heap.size)
theorem qrt {W:World} {B:Nat} {a0 a1 a2 a3 a4 a5 a6 a7 a8:Value} {t:TypeId} (h:W.heap[B]? = some (.cells #[a0,a1,a2,a3,a4,a5,a6,a7,a8] t (0,0))) (v0 v1 v2 v3 v4 v5 v6 v7 v8:Value) :
  (W.setCells B 0 [v0,v1,v2,v3,v4,v5,v6,v7,v8]).heap[B]? = some (.cells #[v0,v1,v2,v3,v4,v5,v6,v7,v8] t (0,0)):=by
 have h0:=uco W B 0 _ t v0 h;rw [show (#[a0,a1,a2,a3,a4,a5,a6,a7,a8]:Array Value).setIfInBounds 0 v0 = #[v0,a1,a2,a3,a4,a5,a6,a7,a8] from rfl] at h0;have h1:=uco _ B 1 _ t v1 h0;rw [show (#[v0,a1,a2,a3,a4,a5,a6,a7,a8]:Array Value).setIfInBounds 1 v1 = #[v0,v1,a2,a3,a4,a5,a6,a7,a8] from rfl] at h1;have h2:=uco _ B 2 _ t v2 h1;rw [show (#[v0,v1,a2,a3,a4,a5,a6,a7,a8]:Array Value).setIfInBounds 2 v2 = #[v0,v1,v2,a3,a4,a5,a6,a7,a8] from rfl] at h2;have h3:=uco _ B 3 _ t v3 h2;rw [show (#[v0,v1,v2,a3,a4,a5,a6,a7,a8]:Array Value).setIfInBounds 3 v3 = #[v0,v1,v2,v3,a4,a5,a6,a7,a8] from rfl] at h3;have h4:=uco _ B 4 _ t v4 h3;rw [show (#[v0,v1,v2,v3,a4,a5,a6,a7,a8]:Array Value).setIfInBounds 4 v4 = #[v0,v1,v2,v3,v4,a5,a6,a7,a8] from rfl] at h4;have h5:=uco _ B 5 _ t v5 h4;rw [show (#[v0,v1,v2,v3,v4,a5,a6,a7,a8]:Array Value).setIfInBounds 5 v5 = #[v0,v1,v2,v3,v4,v5,a6,a7,a8] from rfl] at h5;have h6:=uco _ B 6 _ t v6 h5;rw [show (#[v0,v1,v2,v3,v4,v5,a6,a7,a8]:Array Value).setIfInBounds 6 v6 = #[v0,v1,v2,v3,v4,v5,v6,a7,a8] from rfl] at h6;have h7:=uco _ B 7 _ t v7 h6;rw [show (#[v0,v1,v2,v3,v4,v5,v6,a7,a8]:Array Value).setIfInBounds 7 v7 = #[v0,v1,v2,v3,v4,v5,v6,v7,a8] from rfl] at h7;have h8:=uco _ B 8 _ t v8 h7;rw [show (#[v0,v1,v2,v3,v4,v5,v6,v7,a8]:Array Value).setIfInBounds 8 v8 = #[v0,v1,v2,v3,v4,v5,v6,v7,v8] from rfl] at h8;exact h8
theorem qg9 {B k:Nat} (h:k≠B):(vs:List Value)->(o:Nat)->(W:World)->(W.setCells B o vs).heap[k]? = W.heap[k]?
 |[],_,_=>rfl
 |v::r,o,W=>(qg9 h r (o+1) _).trans (uch W _ k v h)
theorem qku {B n:Nat} (h:n<=B):(vs:List Value)->(o:Nat)->(W:World)->Below n W (W.setCells B o vs)
 |[],_,W=>uat n W
 |v::r,o,W=>((uat n W).setCell (p:=⟨B,o,none⟩) h v).trans (qku h r (o+1) _)
theorem qkv {B:Nat}:(vs:List Value)->(o:Nat)->(W:World)->KeepsOthers W (W.setCells B o vs)
 |[],_,W=>KeepsOthers.refl W
 |v::r,o,W=>(uc6 W _ v).trans (qkv r (o+1) _)
theorem zn5 {B:Nat} {W W':World} (h:Below W.heap.size W W'):KeepsFrom B W W':=
 ⟨h.size,fun k o _ hk _=>(h.block k (uaa.1 hk).1).trans hk⟩
set_option maxRecDepth 100000 in
theorem zvy {W:World} {R:Ending->World->Prop} {D z:Nat} {v0 v1 v2 v3 v4 v5 v6 v7 v8 a0 a1 a2 a3 a6 a7 a8 a9 a10 a11 a12 a13 a14 a15 a16 a17 a18 a19:Value} {n:Int}
  (z4:W.heap[z+2]? = some (.cells #[v0,v1,v2,v3,v4,v5,v6,v7,v8] 132 (0,0))) (z5:Boxed W (z+3) 57 (.int .i64 n)) (hK:W.heap[D]? = some (.deferred (some []))) (hD:z+5<=D)
  (hR:R (.returned (.tuple #[.agg #[v0,v1,v2,v3,v4,v5,v6,v7,v8],.int .i64 n])) (W.putObj D (.deferred none))) :
  bodyPostM Fence.wide 8 Tryz.prog Tryz.f76 R .ret { tmps:=#[a0,a1,a2,a3,.pointer (some ⟨z+1+1,0,none⟩),.pointer (some ⟨z+1+1+1,0,none⟩),a6,a7,a8,a9,a10,a11,a12,a13,a14,a15,a16,a17,a18,a19],defers:=[{ target:=.collected D,args:=#[] }] } W:=by
 have k4:=(ucc (w:=W) (r:=D) (k:=z+2) (o:=.deferred none) (by omega)).trans z4;have k5:(W.putObj D (.deferred none)).heap[z+3]? = _:=(ucc (w:=W) (r:=D) (k:=z+3) (o:=.deferred none) (by omega)).trans z5;have u0:=qh k4 0;have u1:=qh k4 1;have u2:=qh k4 2;have u3:=qh k4 3;have u4:=qh k4 4;have u5:=qh k4 5;have u6:=qh k4 6;have u7:=qh k4 7;have u8:=qh k4 8;simp at u0 u1 u2 u3 u4 u5 u6 u7 u8;have g5:=qh k5 0;simp at g5;refine ⟨by simp,.inl ⟨_,_,rfl,ufd hK,?_⟩⟩;refine ⟨.tuple #[.agg #[v0,v1,v2,v3,v4,v5,v6,v7,v8],.int .i64 n],?_,hR⟩;simp [results,Tryz.results76,go_sem,u0,u1,u2,u3,u4,u5,u6,u7,u8,g5]
set_option maxRecDepth 100000 in
set_option maxHeartbeats 4000000 in
theorem yqn (b off len cap:Nat) (day:Int) (c:Nat->VC) (x:Nat->qw.den) (F:Nat->Prop) (w:World) (hlen:len<=1000000) (A:Option Addr) (hA:0<len->A=some ⟨b,off,none⟩/\b<w.heap.size) (hbF:∀ q,F q->q<w.heap.size)
  (hc:∀ k j u,k<len->(qed (c k))[j]? = some u->w.cell? ⟨b,off+(k*9+j),none⟩=some u)
  (hown:∀ k W,k<len->Below w.heap.size w W->Calls Tryz.prog 113 #[qh9 (c k)] W fun e w'=>∃ d,e = .returned (qh9 d)/\Below W.heap.size W w'/\zvq F (x k) d W w') :
  CallsIn Fence.wide 8 Tryz.prog 76 #[.agg #[.slice A len cap],.int .i64 day] w fun e w'=>yqb w F day x (fun k=>(c k).p 0) len e w'/\Below w.heap.size w w':=by
 refine ug8 Tryz.func76 rfl trivial ?_ rfl;simp only [Tryz.ntmps76,ub5,uaf,ub9,Nat.reduceAdd,Nat.reduceSub,ubv,ubw,ubx,uby,uav,uaz]
 gi_wp2_with (refine ⟨trivial,?_⟩; gi_at_call 112; refine (yh2 _ _ _ _ _).mono ?_; rintro e w' ⟨rfl,rfl⟩)
 have q1:=uax (w.alloc (.cells #[.slice A len cap] 24)) (.cells #[.int .i64 day] 3);have q2:=uax ((w.alloc (.cells #[.slice A len cap] 24)).alloc (.cells #[.int .i64 day] 3)) (.cells qf5 132);have q3:=uax (((w.alloc (.cells #[.slice A len cap] 24)).alloc (.cells #[.int .i64 day] 3)).alloc (.cells qf5 132)) (.cells #[.int .i64 0] 57);have q4:=uax ((((w.alloc (.cells #[.slice A len cap] 24)).alloc (.cells #[.int .i64 day] 3)).alloc (.cells qf5 132)).alloc (.cells #[.int .i64 0] 57)) (.cells #[.slice A len cap] 22);have hbel:Below w.heap.size w (((((w.alloc (.cells #[.slice A len cap] 24)).alloc (.cells #[.int .i64 day] 3)).alloc (.cells qf5 132)).alloc (.cells #[.int .i64 0] 57)).alloc (.cells #[.slice A len cap] 22)):=
  (((((uat _ w).alloc (ua3 _) _).alloc (by simp) _).alloc (by simp; omega) _).alloc (by simp; omega) _).alloc (by simp; omega) _
 have hsz:(((((w.alloc (.cells #[.slice A len cap] 24)).alloc (.cells #[.int .i64 day] 3)).alloc (.cells qf5 132)).alloc (.cells #[.int .i64 0] 57)).alloc (.cells #[.slice A len cap] 22)).heap.size=w.heap.size+5:=by simp
 simp only [World.size_alloc] at q1 q2 q3 q4;have r1:=(Below.heap_alloc ((((w.alloc (.cells #[.slice A len cap] 24)).alloc (.cells #[.int .i64 day] 3)).alloc (.cells qf5 132)).alloc (.cells #[.int .i64 0] 57)) (.cells #[.slice A len cap] 22) (w.heap.size+1) (by simp only [World.size_alloc]; omega)).trans ((Below.heap_alloc _ _ _ (by simp only [World.size_alloc]; omega)).trans ((Below.heap_alloc _ _ _ (by simp only [World.size_alloc]; omega)).trans q1));have r2:=(Below.heap_alloc ((((w.alloc (.cells #[.slice A len cap] 24)).alloc (.cells #[.int .i64 day] 3)).alloc (.cells qf5 132)).alloc (.cells #[.int .i64 0] 57)) (.cells #[.slice A len cap] 22) (w.heap.size+1+1) (by simp only [World.size_alloc]; omega)).trans ((Below.heap_alloc _ _ _ (by simp only [World.size_alloc]; omega)).trans q2);have r3:=(Below.heap_alloc ((((w.alloc (.cells #[.slice A len cap] 24)).alloc (.cells #[.int .i64 day] 3)).alloc (.cells qf5 132)).alloc (.cells #[.int .i64 0] 57)) (.cells #[.slice A len cap] 22) (w.heap.size+1+1+1) (by simp only [World.size_alloc]; omega)).trans q3;unfold qf5 at hbel hsz r1 r2 r3 q4;obtain ⟨W0,hW0⟩:∃ W0,((((w.alloc (.cells #[.slice A len cap] 24)).alloc (.cells #[.int .i64 day] 3)).alloc (.cells #[.int .i64 0,.int .i64 0,.int .i64 0,.int .i64 0,.int .i64 0,.slice none 0 0,.slice none 0 0,.slice none 0 0,.int .i64 0] 132)).alloc (.cells #[.int .i64 0] 57)).alloc (.cells #[.slice A len cap] 22)=W0:=⟨_,rfl⟩;rw [hW0] at hbel hsz r1 r2 r3 q4 ⊢;clear hW0 q1 q2 q3;have hI0:AtI w day (.slice A len cap) (fun k=>(c k).p 0) ([]:List (Fin len)) W0:=⟨r1,r2,r3,q4,hbel,by omega,fun k hk=>by cases hk⟩;refine wpIn_rangeFunc_ownH rfl (by omega) (gf:=154) (lb:=#[.pointer (some ⟨w.heap.size+1+1+1+1,0,none⟩)]) rfl trivial (enters_of Tryz.func154 (by kernel_rfl) rfl)
  (α:=Fin len) (encs:=fun (k:Fin len)=>#[.int .i64 ((k.1:Nat):Int),qh9 (c k.1)]) (Kp:=KpS w.heap.size (w.heap.size+4) (w.heap.size+4)) (S:=fun ys=>ys.map Fin.val=qhq (fun j=>len-1-j) len) (Sp:=fun pre=>∃ k,k<=len/\pre.map Fin.val=qhq (fun j=>len-1-j) k) (N:=len) (w0:=W0)
  (fun l J Jx W hW _ _ hY h0=>ya4 7 (by omega) l (w.heap.size+4) w.heap.size b off len cap (fun k j=>(qed (c k)).getD j undef) hlen A hA J Jx hY W ((hW.block _ (by omega)).trans q4) (fun k j hk hj=>have hb:=(hA (by omega)).2; ((hW.mono (by omega)).cell (p:=⟨b,off+(k*9+j),none⟩) hb).trans ((hbel.cell (p:=⟨b,off+(k*9+j),none⟩) hb).trans (hc k j _ hk (by match j,hj with|0,_|1,_|2,_|3,_|4,_|5,_|6,_|7,_|8,_=>rfl)))) h0)
  (fun h k=>h.trans k) (fun W l o o' hl ho hoc how=>⟨ue5 (w:=w) (ua3 _) W l o o' (by omega) ho hoc how,ucc (by omega),ucc (by omega)⟩) (uat _ _) (fun _=>rfl)
  (fun pre W=>AtI w day (.slice A len cap) (fun k=>(c k).p 0) pre W)
  (fun cd pre W=>AtX w F day x (fun k=>(c k).p 0) cd pre W)
  (yh0 (by omega)) (yh1 (by omega)) hI0
  (fun k a' W=>AtA W0.heap.size c (fun k Bx=>{ tmps:=#[.agg #[.slice A len cap],.int .i64 day,.pointer (some ⟨w.heap.size,0,none⟩),.pointer (some ⟨w.heap.size+1,0,none⟩),.pointer (some ⟨w.heap.size+1+1,0,none⟩),.pointer (some ⟨w.heap.size+1+1+1,0,none⟩),undef,.pointer (some ⟨Bx,0,none⟩),
   .pointer (some ⟨w.heap.size,0,none⟩),.slice A len cap,.func (.func 154) #[] #[.pointer (some ⟨w.heap.size+1+1+1+1,0,none⟩)],.int .i64 (k:Int),qh9 (c k),undef,undef,undef,undef,undef,undef,undef],defers:=[] }) k.1 a' W)
  (fun k a'=>yhy k.1 a') ?assign ?body ?done ?stop
 case assign=>
  rintro l pre ⟨k,hkl⟩ W K hi hK;unfold qh9 qed
  gi_wp2
  have hsz1:=hi.sz;have hB:=(uat w.heap.size W).alloc (by have:=hi.bel.size; omega) (.cells (qed (c k)) 132);exact hK _ _ ((ufb _ _).from _) (KpS.below ((uat _ W).alloc (ua3 _) _) hi.bel.size (by omega) (by omega))
   ⟨hi.x3.alloc _,(uaq _ _ _ (by omega)).trans hi.x4,hi.x5.alloc _,hi.xs.alloc _,hi.bel.alloc hi.bel.size _,by simp; omega,hi.no⟩ ⟨W.heap.size,by omega,uax W _,rfl⟩
 case body=>
  rintro l pre ⟨k,hkl⟩ a' W hl ⟨r,hr⟩ hi ⟨Bx,hBx,bX,rfl⟩ hlt;have bX':=bX;unfold qed at bX';have y0:=qh bX' 0;have y1:=qh bX' 1;have y2:=qh bX' 2;have y3:=qh bX' 3;have y4:=qh bX' 4;have y5:=qh bX' 5;have y6:=qh bX' 6;have y7:=qh bX' 7;have y8:=qh bX' 8;simp at y0 y1 y2 y3 y4 y5 y6 y7 y8;have c3:=hi.x3.cell;have hown':=hown k W hkl hi.bel;unfold qh9 qed at hown';clear bX' hr hc hown
  gi_wp2
  ·refine ⟨trivial,?_⟩;refine (CallsIn.inRound l (callsIn_wide.2 hown')).mono ?_;rintro e w1 ⟨d,rfl,hb1,hres⟩;have hsz1:=hi.sz;have z4:=(hb1.block (w.heap.size+2) (by omega)).trans hi.x4;have z5:w1.heap[w.heap.size+3]? = _:=(hb1.block (w.heap.size+3) (by omega)).trans hi.x5;unfold qf5 at z4;have u0:=qh z4 0;have u1:=qh z4 1;have u2:=qh z4 2;have u3:=qh z4 3;have u4:=qh z4 4;have u5:=qh z4 5;have u6:=qh z4 6;have u7:=qh z4 7;have u8:=qh z4 8;simp at u0 u1 u2 u3 u4 u5 u6 u7 u8;have ff:∀ j,w1.frozen? ⟨w.heap.size+2,j,none⟩=false:=fun j=>by simp [World.frozen?,z4]
   have g5:=qh z5 0;have h5:w1.frozen? ⟨w.heap.size+3,0,none⟩=false:=by simp [World.frozen?,z5]
   gi_wp2
   have hday:(c k).p 0<=day:=by assumption
   have s4:=qrt z4 (.int .i64 (d.p 0)) (.int .i64 (d.p 1)) (.int .i64 (d.p 2)) (.int .i64 (d.p 3)) (.int .i64 (d.p 4)) (.slice (d.A 0) (d.l 0) (d.c 0)) (.slice (d.A 1) (d.l 1) (d.c 1)) (.slice (d.A 2) (d.l 2) (d.c 2)) (.int .i64 (d.p 5));have s5:Boxed (w1.setCells (w.heap.size+2) 0 [.int .i64 (d.p 0),.int .i64 (d.p 1),.int .i64 (d.p 2),.int .i64 (d.p 3),.int .i64 (d.p 4),.slice (d.A 0) (d.l 0) (d.c 0),.slice (d.A 1) (d.l 1) (d.c 1),.slice (d.A 2) (d.l 2) (d.c 2),.int .i64 (d.p 5)]) (w.heap.size+3) 57 (.int .i64 0):=(qg9 (by omega) _ _ _).trans z5;have kk:=qkv (B:=w.heap.size+2) [.int .i64 (d.p 0),.int .i64 (d.p 1),.int .i64 (d.p 2),.int .i64 (d.p 3),.int .i64 (d.p 4),.slice (d.A 0) (d.l 0) (d.c 0),.slice (d.A 1) (d.l 1) (d.c 1),.slice (d.A 2) (d.l 2) (d.c 2),.int .i64 (d.p 5)] 0 w1;have bb:=qku (B:=w.heap.size+2) (n:=w.heap.size) (by omega) [.int .i64 (d.p 0),.int .i64 (d.p 1),.int .i64 (d.p 2),.int .i64 (d.p 3),.int .i64 (d.p 4),.slice (d.A 0) (d.l 0) (d.c 0),.slice (d.A 1) (d.l 1) (d.c 1),.slice (d.A 2) (d.l 2) (d.c 2),.int .i64 (d.p 5)] 0 w1;have oo:∀ q,q≠w.heap.size+2->(w1.setCells (w.heap.size+2) 0 [.int .i64 (d.p 0),.int .i64 (d.p 1),.int .i64 (d.p 2),.int .i64 (d.p 3),.int .i64 (d.p 4),.slice (d.A 0) (d.l 0) (d.c 0),.slice (d.A 1) (d.l 1) (d.c 1),.slice (d.A 2) (d.l 2) (d.c 2),.int .i64 (d.p 5)]).heap[q]? = w1.heap[q]? := fun q hq=>qg9 hq _ _ _;show KeepsFrom _ W ((w1.setCells (w.heap.size+2) 0 [.int .i64 (d.p 0),.int .i64 (d.p 1),.int .i64 (d.p 2),.int .i64 (d.p 3),.int .i64 (d.p 4),.slice (d.A 0) (d.l 0) (d.c 0),.slice (d.A 1) (d.l 1) (d.c 1),.slice (d.A 2) (d.l 2) (d.c 2),.int .i64 (d.p 5)]).setCell ⟨w.heap.size+3,0,none⟩ (.int .i64 0))/\AtX w F day x (fun k=>(c k).p 0) .ret (pre++[⟨k,hkl⟩]) ((w1.setCells (w.heap.size+2) 0 [.int .i64 (d.p 0),.int .i64 (d.p 1),.int .i64 (d.p 2),.int .i64 (d.p 3),.int .i64 (d.p 4),.slice (d.A 0) (d.l 0) (d.c 0),.slice (d.A 1) (d.l 1) (d.c 1),.slice (d.A 2) (d.l 2) (d.c 2),.int .i64 (d.p 5)]).setCell ⟨w.heap.size+3,0,none⟩ (.int .i64 0));generalize w1.setCells (w.heap.size+2) 0 [.int .i64 (d.p 0),.int .i64 (d.p 1),.int .i64 (d.p 2),.int .i64 (d.p 3),.int .i64 (d.p 4),.slice (d.A 0) (d.l 0) (d.c 0),.slice (d.A 1) (d.l 1) (d.c 1),.slice (d.A 2) (d.l 2) (d.c 2),.int .i64 (d.p 5)]=W2 at *;obtain ⟨F',hF1,hF2⟩:=hres;have bel2:Below w.heap.size w W2:=(hi.bel.trans (hb1.mono hi.bel.size)).trans bb;have hne:∀ q,F' q->q≠w.heap.size+2/\q≠w.heap.size+3:=fun q hq=>by
    have hs0:=hi.sz;rcases (hF2 q hq).1 with h|h
    ·have:=hbF q h;omega
    ·omega
   have hsame:∀ q,F' q->(W2.setCell ⟨w.heap.size+3,0,none⟩ (.int .i64 0)).heap[q]? = w1.heap[q]? := fun q hq=>(uch _ _ q _ (hne q hq).2).trans (oo q (hne q hq).1);refine ⟨(zn5 hb1).trans ((kk.trans (uc6 _ _ _)).from _),rfl,⟨pre,⟨k,hkl⟩,d,F',rfl,hi.no,hday,(uch _ _ _ _ (by show w.heap.size+2≠w.heap.size+3; omega)).trans s4,hF1.mono (fun _ h=>h) hsame,fun q hq=>?_⟩,s5.set _,bel2.setCell (p:=⟨w.heap.size+3,0,none⟩) (by show w.heap.size<=w.heap.size+3; omega) _⟩;obtain ⟨q1,arr,ty,p,q2⟩:=hF2 q hq;exact ⟨q1.elim .inl (fun h=>.inr (ual hi.bel.size h)),arr,ty,p,(hsame q hq).trans q2⟩
  ·have hday:¬ (c k).p 0<=day:=by simp_all
   exact ⟨KeepsFrom.refl _ _,KpS.refl _ _ _ _,hi.x3,hi.x4,hi.x5,hi.xs,hi.bel,hi.sz,fun q hq=>(ubc.1 hq).elim (hi.no q) (fun e=>by simp at e; subst e; exact hday)⟩
 case done=>
  rintro D zs W hD hzs hi hK;have z4:=hi.x4;have z5:W.heap[w.heap.size+3]? = _:=hi.x5;unfold qf5 at z4;have u0:=qh z4 0;have u1:=qh z4 1;have u2:=qh z4 2;have u3:=qh z4 3;have u4:=qh z4 4;have u5:=qh z4 5;have u6:=qh z4 6;have u7:=qh z4 7;have u8:=qh z4 8;simp at u0 u1 u2 u3 u4 u5 u6 u7 u8;have ff:∀ j,W.frozen? ⟨w.heap.size+2,j,none⟩=false:=fun j=>by simp [World.frozen?,z4]
  have g5:=qh z5 0;have h5:W.frozen? ⟨w.heap.size+3,0,none⟩=false:=by simp [World.frozen?,z5]
  clear hown hc
  gi_wp2
  have s4:=qrt z4 (.int .i64 0) (.int .i64 0) (.int .i64 0) (.int .i64 0) (.int .i64 0) (.slice none 0 0) (.slice none 0 0) (.slice none 0 0) (.int .i64 0);have s5:Boxed (W.setCells (w.heap.size+2) 0 [.int .i64 0,.int .i64 0,.int .i64 0,.int .i64 0,.int .i64 0,.slice none 0 0,.slice none 0 0,.slice none 0 0,.int .i64 0]) (w.heap.size+3) 57 (.int .i64 0):=(qg9 (by omega) _ _ _).trans z5;have kk:=(qkv (B:=w.heap.size+2) [.int .i64 0,.int .i64 0,.int .i64 0,.int .i64 0,.int .i64 0,.slice none 0 0,.slice none 0 0,.slice none 0 0,.int .i64 0] 0 W).same D _ hK rfl;have bb:=hi.bel.trans (qku (B:=w.heap.size+2) (n:=w.heap.size) (by omega) [.int .i64 0,.int .i64 0,.int .i64 0,.int .i64 0,.int .i64 0,.slice none 0 0,.slice none 0 0,.slice none 0 0,.int .i64 0] 0 W);have kk':=(uc6 (W.setCells (w.heap.size+2) 0 [.int .i64 0,.int .i64 0,.int .i64 0,.int .i64 0,.int .i64 0,.slice none 0 0,.slice none 0 0,.slice none 0 0,.int .i64 0]) ⟨w.heap.size+3,0,none⟩ (.int .i64 7)).same D _ kk rfl;have bb':=bb.setCell (p:=⟨w.heap.size+3,0,none⟩) (by show w.heap.size<=w.heap.size+3; omega) (.int .i64 7);refine zvy ((uch _ _ _ _ (by show w.heap.size+2≠w.heap.size+3; omega)).trans s4) (s5.set (.int .i64 7)) kk' (by omega) ⟨.inl ⟨rfl,fun k hk=>?_⟩,bb'.trans (ue5 (w:=w) (ua3 _) _ D _ _ (by omega) kk' rfl rfl)⟩;have hm:k∈zs.map Fin.val:=by
   rw [hzs];exact udd.2 ⟨len-1-k,udv.2 (by omega),by show len-1-(len-1-k)=k; omega⟩
  obtain ⟨q,hq,rfl⟩:=udd.1 hm;exact hi.no q hq
 case stop=>
  rintro D cd pre W hD ⟨m,hm,hpre⟩ h hK;obtain rfl:=h.ret
  gi_wp2
  obtain ⟨ini,k,d,F',e1,e2,e3,e4,e5,e6⟩:=h.res;refine zvy e4 h.x5 hK (by omega) ⟨.inr ⟨k.1,d,F',k.2,e3,fun j hj1 hj2=>?_,rfl,?_,fun q hq=>?_⟩,h.bel.trans (ue5 (w:=w) (ua3 _) _ D _ _ (by omega) hK rfl rfl)⟩
  ·subst e1;have hl:=ubb List.length hpre;rw [qty,ude,uas] at hl;obtain rfl:m=ini.length+1:=by simpa using hl.symm
   rw [qqj,uda] at hpre;obtain ⟨h2,h3⟩:=List.append_inj' hpre rfl;have hlast:k.1=len-1-ini.length:=by simpa using h3
   have hin:j∈(ini.map Fin.val):=by
    rw [h2];exact udd.2 ⟨len-1-j,udv.2 (by omega),by show len-1-(len-1-j)=j; omega⟩
   obtain ⟨q,hq,rfl⟩:=udd.1 hin;exact e2 q hq
  ·refine e5.mono (fun _ h=>h) (fun q hq=>?_);obtain ⟨_,arr,ty,p,hc2⟩:=e6 q hq;exact ucc (fun e=>by subst e; rw [hK] at hc2; cases hc2)
  ·obtain ⟨h1,arr,ty,p,hc2⟩:=e6 q hq;refine ⟨h1,?_⟩;have:=(uaa.1 hc2).1;simpa [World.putObj] using this
end Go.Proofs.YtgieagiaagoogaaGreat
namespace Go.Proofs.YtgieagiaagoogaaGreat
open Go Go.Ab Go.RowKit Go.Proofs Go.Shelf
theorem zvg {w:World} {F:Nat->Prop} {l:List qw.den} {v:Value} (h:qs w F (.sl qw) l (fun _ u=>u=v)) :
  ∃ (A:Option Addr) (cap:Nat) (b off:Nat) (c:Nat->VC),v = .slice A l.length cap/\(0<l.length->A=some ⟨b,off,none⟩/\F b) /\
   (∀ k j u,k<l.length->(qed (c k))[j]? = some u->w.cell? ⟨b,off+(k*9+j),none⟩=some u)/\∀ k x,l[k]? = some x->(c k).p 0=x.1/\zv w F qw x (qh9 (c k)):=by
 obtain ⟨A,cap,h0,h1,h2,h3⟩:=h;by_cases hp:0<l.length
 ·obtain ⟨ad,hA,hF,hc⟩:=h3 0 l[0] (ua7 hp);have hsp:ad.spot=none:=by
   have hc':w.cell? (ad.add (0*qw.size+0))=some (.int .i64 l[0].1):=hc.1.1;have he:ad.add (0*qw.size+0)=ad:=by simp [Addr.add]
   rw [he] at hc';unfold World.cell? at hc';split at hc'
   ·split at hc'
    ·cases hc'
    ·rename_i hsp;cases hsp2:ad.spot with
     |none=>rfl
     |some _=>rw [hsp2] at hsp; exact absurd rfl hsp
   ·cases hc'
  obtain ⟨b,off,sp⟩:=ad;simp only at hsp;subst hsp;have hall:∀ k,∃ d:VC,∀ x,l[k]? = some x->(∀ j u,(qed d)[j]? = some u->w.cell? ⟨b,off+(k*9+j),none⟩=some u)/\d.p 0=x.1/\zv w F qw x (qh9 d):=by
   intro k;cases hk:l[k]? with
   |none=>exact ⟨⟨fun _=>0,fun _=>none,fun _=>0,fun _=>0⟩,fun x hx=>by cases hx⟩
   |some x=>
    obtain ⟨ad',hA',_,hr⟩:=h3 k x hk;rw [hA] at hA';cases hA';obtain ⟨d,hd,hd0⟩:=zf3 hr;refine ⟨d,fun y hy=>?_⟩;cases hy;have hcell:∀ j u,(qed d)[j]? = some u->w.cell? ⟨b,off+(k*9+j),none⟩=some u:=fun j u hj=>by
     have:=hd j u hj;rw [show qw.size=9 from rfl] at this;have e:(⟨b,off,none⟩:Addr).add (k*9+j)=⟨b,off+(k*9+j),none⟩:=by unfold Addr.add; split<;>simp_all
     rw [e] at this;exact this
    refine ⟨hcell,hd0,rfl,⟨fun _=>⟨_,rfl⟩,fun _=>rfl⟩,?_⟩;refine hr.mono (fun _ h=>h) (fun _ _=>rfl) fun j u hj hu=>?_;have hj9:j<(qed d).size:=hj;have h2:=hd j (qed d)[j] (ubg hj9);have h3:some u=some (qed d)[j]:=hu.symm.trans h2;show (qed d)[j]? = some u;rw [ubg hj9];exact h3.symm
  obtain ⟨c,hcc⟩:=Classical.axiomOfChoice hall;refine ⟨A,cap,b,off,c,h0.symm,fun _=>⟨hA,hF⟩,fun k j u hk hj=>(hcc k l[k] (ua7 hk)).1 j u hj,fun k x hx=>(hcc k x hx).2⟩
 ·refine ⟨A,cap,0,0,fun _=>⟨fun _=>0,fun _=>none,fun _=>0,fun _=>0⟩,h0.symm,fun h=>absurd h hp,fun k j u hk=>absurd hk (by omega),fun k x hx=>?_⟩;have:=(uaj.1 hx).1;omega
theorem qwd (day:Int) (b:List qw.den):(a:List qw.den)->(∀ v∈a,¬ v.1<=day)->yo day (a++b)=yo day b
 |[],_=>rfl
 |v::a,h=>by
  have hv:¬ v.1<=day:=h v (by simp);have:yo day (v::a++b)=yo day (a++b):=if_neg hv;rw [this];exact qwd day b a fun x hx=>h x (by simp [hx])
theorem yft {day:Int} {l:List qw.den} (h:∀ v∈l,¬ v.1<=day):yo day l.reverse=(zbc,7):=by
 have:=qwd day [] l.reverse fun v hv=>h v (List.mem_reverse.1 hv);rw [ud1] at this;exact this
theorem zz7 {day:Int} {l:List qw.den} {k:Nat} {x:qw.den} (hk:l[k]? = some x) (hx:x.1<=day) (h:∀ j y,k<j->l[j]? = some y->¬ y.1<=day):yo day l.reverse=(x,0):=by
 obtain ⟨hlt,rfl⟩:=uaj.1 hk;have hsplit:l=l.take k++l[k]::l.drop (k+1):=by
  rw [← ubp hlt,ue9]
 have hr:l.reverse=(l.drop (k+1)).reverse++(l[k]::(l.take k).reverse):=by
  conv=>lhs; rw [hsplit]
  simp
 rw [hr,qwd]
 ·exact if_pos hx
 ·intro v hv;obtain ⟨j,hj⟩:=ud3 (List.mem_reverse.1 hv);rw [ubd] at hj;exact h _ v (by omega) hj
def wn (t:ze.den):Prop:=t.1.length<=1000000/\∀ v∈t.1,zm8 v
def quf:Ct:=⟨[.d ze,.d i64],[qw,i64],fun x=>((yo x.2.1 x.1.1.reverse).1,(yo x.2.1 x.1.1.reverse).2,()),fun x=>[wn x.1]⟩
theorem zye (w:World) (F:Nat->Prop):zv w F qw zbc (.agg qf5):=by
 have h0:inR .i64 0:=⟨by decide,by decide⟩;refine ⟨rfl,⟨fun _=>⟨_,rfl⟩,fun _=>rfl⟩,⟨rfl,h0⟩,⟨⟨rfl,h0⟩,⟨rfl,h0⟩,⟨rfl,h0⟩,⟨rfl,h0⟩,trivial⟩,?_,?_,?_,⟨rfl,h0⟩,trivial⟩
 all_goals exact ⟨none,0,rfl,ua3 _,ucl _,fun i x hx=>by simp [zbc] at hx⟩
theorem zfj {w:World} {F:Nat->Prop} {x:qw.den} {n:Int} {u:Value} (h:zv w F qw x u) (hn : -9223372036854775808<=n/\n<=9223372036854775807):qi6 w F [qw,i64] (x,n,()) (.tuple #[u,.int .i64 n]):=
 ⟨_,rfl,_,_,rfl,h,_,_,rfl,⟨rfl,⟨fun h=>(by cases h),fun ⟨cs,h⟩=>(by cases h)⟩,rfl,hn⟩,rfl⟩
theorem yff:qa Tryz.prog 76 quf:=by
 refine ⟨enters (fn:=Tryz.f76) (by kernel_rfl) rfl rfl,fun w F xs vs hbd hr hok=>?_⟩;obtain ⟨⟨l,ut⟩,day,_⟩:=xs;obtain ⟨va,vs',rfl,hva,vb,vs'',rfl,hvb,hn⟩:=hr;cases hn;have hva':zv w F ze (l,ut) va:=hva;have hvb':zv w F i64 day vb:=hvb;have hb2:vb = .int .i64 day:=by
  have h:qz Tryz.prog w F (fun _ _=>True) (qga i64 day) vb:=qbi hvb';exact h.2.1
 subst hb2;obtain ⟨cs,rfl⟩:=hva'.2.1.1 rfl;have hs:cs.size=1:=hva'.1;obtain ⟨hsl,_⟩:qs w F (.sl qw) l (fun j u=>cs[j]? = some u)/\True:=⟨hva'.2.2.1,trivial⟩;have hcs:cs = #[cs.getD 0 undef]:=by
  apply ud8
  ·simp [hs]
  ·intro i h1 h2;have:i=0:=by omega
   subst this;simp [Array.getD,hs]
 rw [hcs];have hsl':qs w F (.sl qw) l (fun _ u=>u=cs.getD 0 undef):=by
  obtain ⟨A,c,h1,h2⟩:=hsl;refine ⟨A,c,?_,h2⟩;simp [Array.getD,hs];rw [ubg (by omega)] at h1;exact (udw h1).symm
 obtain ⟨A,cap,b,off,c,e1,hA,hc,hx⟩:=zvg hsl';rw [e1];obtain ⟨hfew1,hfew2⟩:wn (l,ut):=hok;have key:=yqn b off l.length cap day c (fun k=>l.getD k qw.dflt) F w hfew1 A (fun h=>⟨(hA h).1,hbd b (hA h).2⟩) hbd hc (fun k W hk hW=>by
  obtain ⟨_,h2⟩:=hx k l[k] (ua7 hk);have e:l.getD k qw.dflt=l[k]:=by rw [ua6,ua7 hk]; rfl
  rw [e];exact zym hbd hW h2 (hfew2 _ (uer hk)))
 refine (ucb.1 key).mono ?_;rintro e w' ⟨he,hbel⟩;rcases he with ⟨rfl,hno⟩|⟨k,d,F',hk,hday,hafter,rfl,hrep,hF'⟩
 ·have hv:yo day l.reverse=(zbc,7):=yft fun v hv=>by
   obtain ⟨j,hj⟩:=List.getElem?_of_mem hv;have:=hno j (List.getElem?_eq_some_iff.1 hj).1;dsimp only at this;rw [(hx j v hj).1] at this;exact this
  refine ⟨_,F,rfl,hbel,fun _ h=>h,fun b hb=>⟨.inl hb,ubj (hbd b hb) hbel.size⟩,?_⟩;show qi6 w' F [qw,i64] ((yo day l.reverse).1,(yo day l.reverse).2,()) _;rw [hv];exact zfj (zye _ _) (n:=7) (by decide)
 ·have hlk:l[k]? = some l[k]:=List.getElem?_eq_getElem hk;have hv:yo day l.reverse=(l[k],0):=zz7 hlk (by dsimp only at hday; rw [(hx k _ hlk).1] at hday; exact hday) fun j y hj hy=>by
   have:=hafter j hj (List.getElem?_eq_some_iff.1 hy).1;dsimp only at this;rw [(hx j y hy).1] at this;exact this
  have e:l.getD k qw.dflt=l[k]:=by rw [ua6,hlk]; rfl
  dsimp only at hrep;rw [e] at hrep;refine ⟨_,fun b=>F b∨F' b,rfl,hbel,fun _ h=>.inl h,fun b hb=>?_,?_⟩
  ·rcases hb with h|h
   ·exact ⟨.inl h,ubj (hbd b h) hbel.size⟩
   ·exact hF' b h
  ·show qi6 w' _ [qw,i64] ((yo day l.reverse).1,(yo day l.reverse).2,()) _;rw [hv];exact zfj (hrep.mono (fun _ h=>.inr h) (fun _ _=>rfl)) (n:=0) (by decide)
attribute [local go_sem] Oper.semAt_some
theorem yaz (Bn Ba Bo:Nat) (k:Int) (A:Option Addr) (len cap:Nat) (w:World) (hn:Boxed w Bn 3 (.int .i64 k)) (ha:Boxed w Ba 251 (.slice A len cap)) (ho:Boxed w Bo 4 (.bool false)) :
  CallsD Tryz.prog 178 #[.pointer (some ⟨Bn,0,none⟩),.pointer (some ⟨Ba,0,none⟩),.pointer (some ⟨Bo,0,none⟩)] .returning w fun e u' w'=>
   u' = .returning/\(∃ v,e = .returned v)/\w'=w.setCell ⟨Bo,0,none⟩ (.bool (decide (k=len))):=by
 have c1:=hn.cell;have c2:=ha.cell;have c3:=ho.cell;have f3:=ho.frozen
 go_enter_d Tryz.func178,Tryz.ntmps178
 go_wp2
 go_end0
 exact ⟨⟨_,rfl⟩,by rw [Bool.beq_eq_decide_eq]⟩
structure AllI (w:World) (b off cap:Nat) (bs:Nat->Bool) (k:Nat) (W:World):Prop where
 x0:Boxed W w.heap.size 251 (.slice (some ⟨b,off,none⟩) 4 cap)
 x1:Boxed W (w.heap.size+1) 4 (.bool false)
 x2:Boxed W (w.heap.size+2) 3 (.int .i64 k)
 bel:Below w.heap.size w W
 sz:w.heap.size+3<=W.heap.size
 yes:∀ j,j<k->bs j=true
structure FourFn (w:World) (b off:Nat) (g:Nat->Nat) (caps:Nat->Array Value) (bs:Nat->Bool):Prop where
 blk:b<w.heap.size
 cell:∀ k,k<4->w.cell? ⟨b,off+k,none⟩=some (.func (.func (g k)) #[] (caps k))
 enter:∀ k,k<4->∀ args w,(callFunc (g k) args).run Tryz.prog w = .ok (.enter (g k) args) w
 call:∀ k,k<4->∀ W,Below w.heap.size w W->Calls Tryz.prog (g k) (caps k) W fun e W'=>e = .returned (.bool (bs k))/\Below W.heap.size W W'
theorem zo5 {w W : World} {b off cap : Nat} {bs : Nat -> Bool} {k : Nat} {r : Bool} {a0 a4 a5 a7 a8 a9 a10 a11 a12 a13 a14 a15 a16 a17 a18 : Value} (hi : AllI w b off cap bs k W) (hr : decide ((k : Int) = (4 : Nat)) = r) :
    bodyPostD Tryz.prog Tryz.f137 (fun e w' => e = .returned (.bool r) /\ Below w.heap.size w w') .ret
      { tmps := #[a0, .pointer (some ⟨w.heap.size, 0, none⟩), .pointer (some ⟨w.heap.size + 1, 0, none⟩), .pointer (some ⟨w.heap.size + 1 + 1, 0, none⟩), a4, a5, .func (.func 178) #[] #[.pointer (some ⟨w.heap.size + 1 + 1, 0, none⟩), .pointer (some ⟨w.heap.size, 0, none⟩), .pointer (some ⟨w.heap.size + 1, 0, none⟩)], a7, a8, a9, a10, a11, a12, a13, a14, a15, a16, a17, a18],
        defers := [{ target := .fn (.func 178) #[.pointer (some ⟨w.heap.size + 1 + 1, 0, none⟩), .pointer (some ⟨w.heap.size, 0, none⟩), .pointer (some ⟨w.heap.size + 1, 0, none⟩)], args := #[] }] } W := by
  refine udo (f := 178) (args := #[.pointer (some ⟨w.heap.size + 2, 0, none⟩), .pointer (some ⟨w.heap.size, 0, none⟩), .pointer (some ⟨w.heap.size + 1, 0, none⟩)]) (by simp) (by simp [go_sem]) ?_
  refine (yaz (w.heap.size + 2) w.heap.size (w.heap.size + 1) k _ 4 cap W hi.x2 hi.x0 hi.x1).mono ?_
  rintro e u' w'' ⟨rfl, ⟨v, rfl⟩, rfl⟩
  have c := (hi.x1.set (.bool (decide ((k : Int) = (4 : Nat))))).cell
  have hb := hi.bel.setCell (p := ⟨w.heap.size + 1, 0, none⟩) (by show w.heap.size <= w.heap.size + 1; omega) (.bool (decide ((k : Int) = (4 : Nat))))
  rw [hr] at c hb ⊢
  refine ⟨.bool r, ?_, rfl, hb⟩
  simp [results, Tryz.results137, go_sem, c]
set_option maxRecDepth 100000 in
set_option maxHeartbeats 1000000 in
theorem yhv (b off cap : Nat) (g : Nat -> Nat) (caps : Nat -> Array Value) (bs : Nat -> Bool) (w : World) (h : FourFn w b off g caps bs) :
    Calls Tryz.prog 137 #[.slice (some ⟨b, off, none⟩) 4 cap] w fun e w' => e = .returned (.bool (bs 0 && (bs 1 && (bs 2 && bs 3)))) /\ Below w.heap.size w w' := by
  have hmf : ∀ (fn : Fn) (first cap : Array Value) (w : World), (Instr.makeFunc fn first cap).run Tryz.prog w = .ok (.func fn first cap) w := fun _ _ _ _ => rfl
  go_enter_defers Tryz.func137, Tryz.ntmps137
  go_wp2
  have z0 := (uaq ((w.alloc (.cells #[.slice (some ⟨b, off, none⟩) 4 cap] 251)).alloc (.cells #[.bool false] 4)) (.cells #[.int .i64 0] 3) w.heap.size (by simp only [ub1]; omega)).trans ((uaq _ _ _ (by simp only [ub1]; omega)).trans (uax w (.cells #[.slice (some ⟨b, off, none⟩) 4 cap] 251)))
  have z1' := uax (w.alloc (.cells #[.slice (some ⟨b, off, none⟩) 4 cap] 251)) (.cells #[.bool false] 4)
  rw [ub1] at z1'
  have z1 := (uaq ((w.alloc (.cells #[.slice (some ⟨b, off, none⟩) 4 cap] 251)).alloc (.cells #[.bool false] 4)) (.cells #[.int .i64 0] 3) (w.heap.size + 1) (by simp only [ub1]; omega)).trans z1'
  have z2 : (((w.alloc (.cells #[.slice (some ⟨b, off, none⟩) 4 cap] 251)).alloc (.cells #[.bool false] 4)).alloc (.cells #[.int .i64 0] 3)).heap[w.heap.size + 2]? = some (.cells #[.int .i64 0] 3 (0, 0)) := by
    have := uax ((w.alloc (.cells #[.slice (some ⟨b, off, none⟩) 4 cap] 251)).alloc (.cells #[.bool false] 4)) (.cells #[.int .i64 0] 3)
    rwa [ub1, ub1] at this
  have hbel : Below w.heap.size w (((w.alloc (.cells #[.slice (some ⟨b, off, none⟩) 4 cap] 251)).alloc (.cells #[.bool false] 4)).alloc (.cells #[.int .i64 0] 3)) := (((uat _ w).alloc (ua3 _) _).alloc (by simp) _).alloc (by simp; omega) _
  have hsz : (((w.alloc (.cells #[.slice (some ⟨b, off, none⟩) 4 cap] 251)).alloc (.cells #[.bool false] 4)).alloc (.cells #[.int .i64 0] 3)).heap.size = w.heap.size + 3 := by simp
  have hI0 : AllI w b off cap bs 0 (((w.alloc (.cells #[.slice (some ⟨b, off, none⟩) 4 cap] 251)).alloc (.cells #[.bool false] 4)).alloc (.cells #[.int .i64 0] 3)) := ⟨z0, z1, z2, hbel, by omega, fun j hj => by omega⟩
  go_loopw [9] (fun i wr => ∃ k : Nat, k <= 4 /\ i = .int .i64 k /\ AllI w b off cap bs k wr)
    (fun i _ => 4 - (intOf i).toNat)
  case atStart => exact ⟨0, by omega, rfl, hI0⟩
  case round =>
    obtain ⟨k, hk, rfl, hi⟩ := hrel
    by_cases hlt : k < 4
    · have hc : wr.cell? ⟨b, off + k, none⟩ = some (.func (.func (g k)) #[] (caps k)) := (hi.bel.cell (p := ⟨b, off + k, none⟩) h.blk).trans (h.cell k hlt)
      have he := h.enter k hlt
      have c2 := hi.x2.cell
      have f2 := hi.x2.frozen
      go_wp2
      refine (h.call k hlt wr hi.bel).mono ?_
      rintro e w1 ⟨rfl, hb1⟩
      have hs := hi.sz
      have y0 : Boxed w1 _ _ _ := (hb1.block _ (by omega)).trans hi.x0
      have y1 : Boxed w1 _ _ _ := (hb1.block (w.heap.size + 1) (by omega)).trans hi.x1
      have y2 : Boxed w1 _ _ _ := (hb1.block (w.heap.size + 2) (by omega)).trans hi.x2
      have hi1 : AllI w b off cap bs k w1 := ⟨y0, y1, y2, hi.bel.trans (hb1.mono hi.bel.size), ual hi.sz hb1.size, hi.yes⟩
      have d2 := y2.cell
      have e2 := y2.frozen
      clear hc he c2 f2
      cases hbk : bs k with
      | false =>
        go_wp2
        refine zo5 hi1 ?_
        have h4 : ¬ ((k : Int) = (4 : Nat)) := by omega
        rw [uao h4]
        have : k = 0 ∨ k = 1 ∨ k = 2 ∨ k = 3 := by omega
        rcases this with rfl | rfl | rfl | rfl <;> rw [hbk] <;> simp
      | true =>
        go_wp2
        go_roundw
        case rel => exact ⟨k + 1, by omega, by simp, y0.other (by omega) _, y1.other (by omega) _, y2.set _, hi1.bel.setCell (p := ⟨w.heap.size + 2, 0, none⟩) (by show w.heap.size <= w.heap.size + 2; omega) _, by simp; exact hi1.sz, fun j hj => by
          by_cases hjk : j = k
          · rw [hjk]; exact hbk
          · exact hi.yes j (by omega)⟩
        case measure => simp [intOf]; omega
    · obtain rfl : k = 4 := by omega
      go_wp2
      refine zo5 hi ?_
      rw [hi.yes 0 (by omega), hi.yes 1 (by omega), hi.yes 2 (by omega), hi.yes 3 (by omega)]
      rfl
end Go.Proofs.YtgieagiaagoogaaGreat
namespace Go.Proofs.YtgieagiaagoogaaGreat
open Go Go.Ab Go.RowKit Go.Proofs Go.Shelf
attribute [local go_sem] Oper.semAt_some
noncomputable def yrz:Cx:=cx [(104,xx),(68,qi9),(141,qhz),(143,qgw)] []
theorem qwf:CxOK Tryz.prog yrz:=zc qv ⟨qvq,zlh,zdr,qpz,trivial⟩ trivial
def tq (k:Nat) (t:zo.den):Bool:=match k with
 |0=>(xx.f (t.1,())).1
 |1=>bif decide ((qi9.f (t.1,())).1≥1) then decide ((qi9.f (t.1,())).1<=1100) else false
 |2=>(qhz.f (t.2.1,())).1
 |_=>(qgw.f (t.2.2.1,())).1
def cTq (k:Nat):Ct:=⟨[.ptr zo],[.bool],fun x=>(tq k x.1,()),fun _=>[]⟩
theorem yp0:qa Tryz.prog 138 (cTq 0):=
 wa (qg qwf (Λ:=qq) (fn:=Tryz.f138) (fr:=fun x=>Fr.val (tq 0 x.1,())) (ps:=[.ptr zo]) (rs:=[.bool]) (zo.dflt,()) (by kernel_rfl) (fun c E _=>qe c 0) (fun x=>by kernel_rfl)) _ _ (fun _ _ _ _ _ _=>⟨trivial,rfl⟩)
theorem yp1:qa Tryz.prog 139 (cTq 1):=
 wa (qg qwf (Λ:=qq) (fn:=Tryz.f139) (fr:=fun x=>Fr.val (tq 1 x.1,())) (ps:=[.ptr zo]) (rs:=[.bool]) (zo.dflt,()) (by kernel_rfl) (fun c E _=>qe c 0) (fun x=>by kernel_rfl)) _ _ (fun _ _ _ _ _ _=>⟨trivial,rfl⟩)
theorem yp2:qa Tryz.prog 140 (cTq 2):=
 wa (qg qwf (Λ:=qq) (fn:=Tryz.f140) (fr:=fun x=>Fr.val (tq 2 x.1,())) (ps:=[.ptr zo]) (rs:=[.bool]) (zo.dflt,()) (by kernel_rfl) (fun c E _=>qe c 0) (fun x=>by kernel_rfl)) _ _ (fun _ _ _ _ _ _=>⟨trivial,rfl⟩)
theorem yp3:qa Tryz.prog 142 (cTq 3):=
 wa (qg qwf (Λ:=qq) (fn:=Tryz.f142) (fr:=fun x=>Fr.val (tq 3 x.1,())) (ps:=[.ptr zo]) (rs:=[.bool]) (zo.dflt,()) (by kernel_rfl) (fun c E _=>qe c 0) (fun x=>by kernel_rfl)) _ _ (fun _ _ _ _ _ _=>⟨trivial,rfl⟩)
def tqF:Nat->Nat
 |0=>138
 |1=>139
 |2=>140
 |_=>142
theorem zzw:(k:Nat)->k<4->qa Tryz.prog (tqF k) (cTq k)
 |0,_=>yp0
 |1,_=>yp1
 |2,_=>yp2
 |3,_=>yp3
 |n+4,h=>absurd h (by omega)
theorem ylc {a b:Int} (hf:wk (a,b,())=true):qdy (a,b,())=true/\decide (b-a≥1)=true:=by
 obtain ⟨h1,h2,h3⟩:=qcw.1 hf;refine ⟨?_,?_⟩
 ·have h2':a<=b:=ubs h2;simp only [qdy,ua1,uab];exact ⟨h1,h2',h3⟩
 ·simp; omega
theorem yfg (t:zo.den):(tq 0 t&&(tq 1 t&&(tq 2 t&&tq 3 t)))=qeu t:=by
 obtain ⟨⟨a,b,_⟩,r,cs,_⟩:=t;show (qdy (a,b,())&&((bif decide (qsz a b≥1) then decide (qsz a b<=1100) else false)&&(qh5 r.1 r.2.1 r.2.2.1 r.2.2.2.1&&qcc cs)))=(wk (a,b,())&&(decide (b-a<=1100)&&(qh5 r.1 r.2.1 r.2.2.1 r.2.2.2.1&&qcc cs)));by_cases hf:wk (a,b,())=true
 ·have hm:qsz a b=b-a:=if_pos hf;obtain ⟨hr,hge⟩:=ylc hf;rw [hm,hr,hf,hge];rfl
 ·have hm:qsz a b=0:=if_neg hf;have hf':wk (a,b,())=false:=by simpa using hf
  rw [hm,hf'];simp
set_option maxRecDepth 100000 in
set_option maxHeartbeats 1000000 in
theorem zzt (c0 c1 c2 c3 c4 c5 c6:Value) (R:Ending->World->Prop) (w:World)
  (hall:∀ cap,Calls Tryz.prog 137 #[.slice (some ⟨w.heap.size+1,0,none⟩) 4 cap] ((w.alloc (.cells #[c0,c1,c2,c3,c4,c5,c6] 36)).alloc (.cells #[.func (.func (tqF 0)) #[] #[.pointer (some ⟨w.heap.size,0,none⟩)],.func (.func (tqF 1)) #[] #[.pointer (some ⟨w.heap.size,0,none⟩)],.func (.func (tqF 2)) #[] #[.pointer (some ⟨w.heap.size,0,none⟩)],.func (.func (tqF 3)) #[] #[.pointer (some ⟨w.heap.size,0,none⟩)]] 47)) R)
  (hR:∀ e w',R e w'->∃ r,e = .returned (.bool r)) :
  Calls Tryz.prog 98 #[.agg #[c0,c1,c2,c3,c4,c5,c6]] w R:=by
 have hmf:∀ (fn:Fn) (first cap:Array Value) (w:World),(Instr.makeFunc fn first cap).run Tryz.prog w = .ok (.func fn first cap) w:=fun _ _ _ _=>rfl
 go_enter Tryz.func98,Tryz.ntmps98
 go_wp2_with (go_at_call 137; refine (hall 4).mono ?_; rintro e w' hRe; obtain ⟨r,rfl⟩:=hR e w' hRe)
 exact hRe
theorem qv8:qa Tryz.prog 98 qhk:=by
 refine ⟨enters (fn:=Tryz.f98) (by kernel_rfl) rfl rfl,fun w F xs vs hbd hr _=>?_⟩;obtain ⟨t,_⟩:=xs;obtain ⟨va,vs',rfl,hva,hn⟩:=hr;cases hn;have hva':zv w F zo t va:=hva;obtain ⟨cs,rfl⟩:=hva'.2.1.1 rfl;have hs:cs.size=7:=hva'.1;obtain ⟨c0,c1,c2,c3,c4,c5,c6,rfl⟩:∃ c0 c1 c2 c3 c4 c5 c6,cs = #[c0,c1,c2,c3,c4,c5,c6]:=by
  refine ⟨cs[0],cs[1],cs[2],cs[3],cs[4],cs[5],cs[6],?_⟩;apply ud8
  ·simp [hs]
  ·intro i h1 h2;have:i<7:=by omega
   match i,this with
   |0,_|1,_|2,_|3,_|4,_|5,_|6,_=>rfl
 have hsz:((w.alloc (.cells #[c0,c1,c2,c3,c4,c5,c6] 36)).alloc (.cells #[.func (.func (tqF 0)) #[] #[.pointer (some ⟨w.heap.size,0,none⟩)],.func (.func (tqF 1)) #[] #[.pointer (some ⟨w.heap.size,0,none⟩)],.func (.func (tqF 2)) #[] #[.pointer (some ⟨w.heap.size,0,none⟩)],.func (.func (tqF 3)) #[] #[.pointer (some ⟨w.heap.size,0,none⟩)]] 47)).heap.size=w.heap.size+2:=by simp
 have z0:=(uaq (w.alloc (.cells #[c0,c1,c2,c3,c4,c5,c6] 36)) (.cells #[.func (.func (tqF 0)) #[] #[.pointer (some ⟨w.heap.size,0,none⟩)],.func (.func (tqF 1)) #[] #[.pointer (some ⟨w.heap.size,0,none⟩)],.func (.func (tqF 2)) #[] #[.pointer (some ⟨w.heap.size,0,none⟩)],.func (.func (tqF 3)) #[] #[.pointer (some ⟨w.heap.size,0,none⟩)]] 47) w.heap.size (by simp only [ub1]; omega)).trans (uax w (.cells #[c0,c1,c2,c3,c4,c5,c6] 36));have z1:=uax (w.alloc (.cells #[c0,c1,c2,c3,c4,c5,c6] 36)) (.cells #[.func (.func (tqF 0)) #[] #[.pointer (some ⟨w.heap.size,0,none⟩)],.func (.func (tqF 1)) #[] #[.pointer (some ⟨w.heap.size,0,none⟩)],.func (.func (tqF 2)) #[] #[.pointer (some ⟨w.heap.size,0,none⟩)],.func (.func (tqF 3)) #[] #[.pointer (some ⟨w.heap.size,0,none⟩)]] 47);have hbel:Below w.heap.size w ((w.alloc (.cells #[c0,c1,c2,c3,c4,c5,c6] 36)).alloc (.cells #[.func (.func (tqF 0)) #[] #[.pointer (some ⟨w.heap.size,0,none⟩)],.func (.func (tqF 1)) #[] #[.pointer (some ⟨w.heap.size,0,none⟩)],.func (.func (tqF 2)) #[] #[.pointer (some ⟨w.heap.size,0,none⟩)],.func (.func (tqF 3)) #[] #[.pointer (some ⟨w.heap.size,0,none⟩)]] 47)):=((uat _ w).alloc (ua3 _) _).alloc (by simp) _;refine (zzt c0 c1 c2 c3 c4 c5 c6 (fun e w'=>e = .returned (.bool (qeu t))/\Below w.heap.size w w') w (fun cap=>?_) (fun e w' h=>⟨_,h.1⟩)).mono ?_
 ·rw [ub1] at z1;generalize ((w.alloc (.cells #[c0,c1,c2,c3,c4,c5,c6] 36)).alloc (.cells #[.func (.func (tqF 0)) #[] #[.pointer (some ⟨w.heap.size,0,none⟩)],.func (.func (tqF 1)) #[] #[.pointer (some ⟨w.heap.size,0,none⟩)],.func (.func (tqF 2)) #[] #[.pointer (some ⟨w.heap.size,0,none⟩)],.func (.func (tqF 3)) #[] #[.pointer (some ⟨w.heap.size,0,none⟩)]] 47))=W0 at *;have hf:FourFn W0 (w.heap.size+1) 0 tqF (fun _=>#[.pointer (some ⟨w.heap.size,0,none⟩)]) (fun k=>tq k t):=by
   refine ⟨by omega,fun k hk=>?_,fun k hk=>(zzw k hk).1,fun k hk W hW=>?_⟩
   ·rw [uai,qh z1 k]
    match k,hk with
    |0,_|1,_|2,_|3,_=>rfl
   ·have hz:W.heap[w.heap.size]? = _:=(hW.block _ (by omega)).trans z0;have hrep:qs W (fun b=>F b∨b=w.heap.size) zo t (fun j u=>W.cell? ((⟨w.heap.size,0,none⟩:Addr).add j)=some u):=by
     refine hva'.2.2.mono (fun _ h=>.inl h) (fun b hb=>(hW.block b (by have:=hbd b hb; omega)).trans (hbel.block b (hbd b hb))) fun j u _ hu=>?_;have e:(⟨w.heap.size,0,none⟩:Addr).add j=⟨w.heap.size,j,none⟩:=by unfold Addr.add; split<;>simp_all
     rw [e,qh hz j];exact hu
    refine ((zzw k hk).2 W (fun b=>F b∨b=w.heap.size) (t,()) [.pointer (some ⟨w.heap.size,0,none⟩)] (fun b hb=>?_) ⟨_,[],rfl,⟨⟨w.heap.size,0,none⟩,rfl,.inr rfl,hrep⟩,rfl⟩ trivial).mono ?_
    ·have:=hW.size;rcases hb with h|h
     ·have:=hbd b h; omega
     ·omega
    ·rintro e W' ⟨v,F',rfl,hb',_,_,hv⟩;have hv':qz Tryz.prog W' F' (fun _ _=>True) (qga .bool (tq k t)) v:=qbi hv;exact ⟨by rw [show v = .bool (tq k t) from hv'.2],hb'⟩
  refine (yhv (w.heap.size+1) 0 cap tqF _ (fun k=>tq k t) W0 hf).mono ?_;rintro e w' ⟨rfl,hb⟩;rw [yfg];exact ⟨rfl,hbel.trans (hb.mono (by omega))⟩
 ·rintro e w' ⟨rfl,hb⟩;exact ⟨_,F,rfl,hb,fun _ h=>h,fun b h=>⟨.inl h,ubj (hbd b h) hb.size⟩,rfl,⟨fun h=>(by cases h),fun ⟨cs,h⟩=>(by cases h)⟩,rfl⟩
end Go.Proofs.YtgieagiaagoogaaGreat
namespace Go.Proofs.YtgieagiaagoogaaGreat
open Go Go.Ab Go.RowKit Go.Proofs
attribute [local go_sem] Oper.semAt_some
abbrev zi1:List (Int×Nat):=[(1,179),(2,180),(3,181),(4,182)]
def zgp (w:World) (r:Nat) (es:List (Int×Nat)):Prop:=∃ arr ck,w.heap[r]? = some (.map arr ck)/\arr.toList.map (fun e=>(e.key,e.val))=es.map (fun x=>(Value.int .i64 x.1,Value.func (.func x.2) #[] #[]))
theorem qm6 {P:Program} {w:World} {t kt et:TypeId} {r f:Nat} {es:List (Int×Nat)} {n:Int} (ht:P.underlying t=some (.map kt et)) (hk:P.underlying kt=some (.int .i64))
  (h:zgp w r es) (hn:es.find? (fun x=>x.1==n)=none) :
  ∃ w',(Instr.mapUpdate t (.map (some r)) (.int .i64 n) (.func (.func f) #[] #[])).run P w = .ok () w'/\zgp w' r (es++[(n,f)])/\w'.heap.size=w.heap.size/\(∀ b,b≠r->w'.heap[b]? = w.heap[b]?)/\w'.os=w.os/\w'.tape=w.tape/\w'.output=w.output:=by
 obtain ⟨arr,ck,hr,he⟩:=h;obtain ⟨j,hj⟩:=qqi (n:=n) arr.toList es 0 he;rw [hn] at hj;have hck:(Instr.checkKey false 10000 kt (.int .i64 n)).run P w = .ok () w:=qui hk false 9999 n;have hob:(getObj r).run P w = .ok (.map arr ck) w:=by simp [getObj,Sem.run,hr]
 have hlt:r<w.heap.size:=(uaa.1 hr).1;refine ⟨{ w with heap:=w.heap.setIfInBounds r (.map (arr.push { key:=.int .i64 n,val:=.func (.func f) #[] #[],born:=ck }) (ck+1)) },?_,?_,?_,?_,rfl,rfl,rfl⟩
 ·simp [Instr.mapUpdate,uah ht,hob,hck,Instr.findKey,uah hk,hj,Go.MapKept.run_setObj_map _ hr]
 ·refine ⟨_,_,by simp [hlt]; exact ⟨rfl,rfl⟩,?_⟩;simp [he]
 ·simp
 ·intro b hb;simp [Array.getElem?_setIfInBounds,Ne.symm hb]
theorem qtt:Tryz.prog.underlying 224=some (.map 3 176):=by kernel_rfl
theorem qxg:Tryz.prog.underlying 3=some (.int .i64):=by kernel_rfl
set_option maxRecDepth 100000 in
set_option maxHeartbeats 1000000 in
theorem zrv (w:World):Calls Tryz.prog 144 #[] w fun e w'=>e = .returned (.map (some w.heap.size))/\zgp w' w.heap.size zi1/\Below w.heap.size w w'/\w'.heap.size=w.heap.size+1:=by
 have hmm:=@run_makeMap Tryz.prog;have s0:zgp (w.alloc (.map #[] 0)) w.heap.size []:=⟨#[],0,by show (w.heap.push _)[w.heap.size]? = _; exact Array.getElem?_push_size,rfl⟩
 go_enter Tryz.func144,Tryz.ntmps144
 obtain ⟨w1,r1,m1,z1,o1,a1,b1,c1⟩:=qm6 (n:=1) (f:=179) qtt qxg s0 rfl;obtain ⟨w2,r2,m2,z2,o2,a2,b2,c2⟩:=qm6 (n:=2) (f:=180) qtt qxg m1 rfl;obtain ⟨w3,r3,m3,z3,o3,a3,b3,c3⟩:=qm6 (n:=3) (f:=181) qtt qxg m2 rfl;obtain ⟨w4,r4,m4,z4,o4,a4,b4,c4⟩:=qm6 (n:=4) (f:=182) qtt qxg m3 rfl
 go_wp2
 go_ret
 refine ⟨rfl,m4,⟨?_,?_,?_,?_,?_⟩,?_⟩
 ·rw [a4,a3,a2,a1]; rfl
 ·rw [b4,b3,b2,b1]; rfl
 ·rw [c4,c3,c2,c1]; rfl
 ·rw [z4,z3,z2,z1,World.alloc,Array.size_push]; omega
 ·intro b hb;rw [o4 b (by omega),o3 b (by omega),o2 b (by omega),o1 b (by omega),World.alloc];rw [Array.getElem?_push_lt hb,ubg hb]
 ·rw [z4,z3,z2,z1,World.alloc,Array.size_push]
def zpa:Ct:=⟨[],[.fm zi1],fun _=>((),()),fun _=>[]⟩
theorem zv8:qa Tryz.prog 144 zpa:=by
 refine ⟨enters (fn:=Tryz.f144) (by kernel_rfl) rfl rfl,fun w F xs vs hb hr _=>?_⟩;have hv:vs=[]:=hr;subst hv;refine (zrv w).mono ?_;rintro e w' ⟨rfl,⟨arr,ck,hr,he⟩,hbel,hsz⟩;refine ⟨_,fun b=>F b∨b=w.heap.size,rfl,hbel,fun b h=>.inl h,fun b h=>⟨h.elim .inl (fun h=>.inr (by omega)),h.elim (fun h=>by have:=hb b h; omega) (fun h=>by omega)⟩,?_⟩;refine ⟨rfl,⟨fun h=>(by cases h),fun ⟨cs,h⟩=>(by cases h)⟩,w.heap.size,arr,ck,rfl,.inr rfl,hr,he⟩
end Go.Proofs.YtgieagiaagoogaaGreat
namespace Go.Proofs.YtgieagiaagoogaaGreat
open Go Go.Ab Go.RowKit Go.Proofs
noncomputable def yry:Cx:=cx [(144,zpa),(145,qyk),(179,ya9),(180,yba),(181,ybb),(182,ybc)] []
theorem yha:CxOK Tryz.prog yry:=zc qv ⟨zv8,zwo,ym9,yna,ynb,ync,trivial⟩ trivial
def chG (c:qd.den):Bool:=bif bif (zi1.find? (fun x=>x.1==c.2.2.1)).isSome then (qyk.f (c.1,())).1 else false then (qyk.f (c.2.1,())).1 else false
def zkk (x:qn [.d qd]):Fr (qi [.bool]):=
 Fr.need (chG x.1=true->x.1.2.2.1=1->True)
  (Fr.need (chG x.1=true->x.1.2.2.1≠1->(x.1.2.2.1=2->True)/\(x.1.2.2.1≠2->(x.1.2.2.1=3->True)/\(x.1.2.2.1≠3->x.1.2.2.1=4)))
   (Fr.val (bif chG x.1 then (bif x.1.2.2.1==1 then ya9.f (x.1,()) else bif x.1.2.2.1==2 then yba.f (x.1,()) else bif x.1.2.2.1==3 then ybb.f (x.1,()) else ybc.f (x.1,())).1 else false,())))
theorem ybi (k:Int):(zi1.find? (fun x=>x.1==k)).isSome=decide (k=1∨k=2∨k=3∨k=4):=by
 rw [uau];simp only [List.find?_isSome,zi1,ua2,ues,or_false,ubu,uab];constructor
 ·rintro ⟨x,rfl|rfl|rfl|rfl,h⟩
  ·exact .inl h.symm
  ·exact .inr (.inl h.symm)
  ·exact .inr (.inr (.inl h.symm))
  ·exact .inr (.inr (.inr h.symm))
 ·rintro (h|h|h|h)
  ·exact ⟨(1,179),.inl rfl,h.symm⟩
  ·exact ⟨(2,180),.inr (.inl rfl),h.symm⟩
  ·exact ⟨(3,181),.inr (.inr (.inl rfl)),h.symm⟩
  ·exact ⟨(4,182),.inr (.inr (.inr rfl)),h.symm⟩
theorem ym7 (c:qd.den):(zkk (c,())).ok/\(zkk (c,())).get=(xy c,()):=by
 have hk:=ybi c.2.2.1;have hg:chG c=true->c.2.2.1=1∨c.2.2.1=2∨c.2.2.1=3∨c.2.2.1=4:=by
  intro h;unfold chG at h;rw [hk] at h;by_cases hd:c.2.2.1=1∨c.2.2.1=2∨c.2.2.1=3∨c.2.2.1=4
  ·exact hd
  ·rw [uao hd] at h;cases h
 refine ⟨⟨fun _ _=>trivial,fun h hn=>⟨fun _=>trivial,fun h2=>⟨fun _=>trivial,fun h3=>?_⟩⟩,trivial⟩,?_⟩
 ·rcases hg h with h1|h1|h1|h1
  ·exact absurd h1 hn
  ·exact absurd h1 h2
  ·exact absurd h1 h3
  ·exact h1
 ·show (bif chG c then (bif c.2.2.1==1 then (ck1 c,()) else bif c.2.2.1==2 then (ck2 c,()) else bif c.2.2.1==3 then (ck3 c,()) else (ck4 c,())).1 else false,())=(xy c,());unfold chG xy za3;rw [hk];show ((bif bif bif _ then qc6 c.1 else false then qc6 c.2.1 else false then _ else false),())=_;by_cases h1:c.2.2.1=1
  ·simp only [h1,true_or,decide_true,ue4,beq_self_eq_true,if_true];cases qc6 c.1<;>cases qc6 c.2.1<;>rfl
  ·by_cases h2:c.2.2.1=2
   ·simp [h2];cases qc6 c.1<;>cases qc6 c.2.1<;>rfl
   ·by_cases h3:c.2.2.1=3
    ·simp [h3];cases qc6 c.1<;>cases qc6 c.2.1<;>rfl
    ·by_cases h4:c.2.2.1=4
     ·simp [h4];cases qc6 c.1<;>cases qc6 c.2.1<;>rfl
     ·simp [h1,h2,h3,h4]
theorem qr9:qa Tryz.prog 99 qeg:=
 conv (qg yha (Λ:=qq) (fn:=Tryz.f99) (fr:=zkk) (ps:=[.d qd]) (rs:=[.bool]) ((qd.dflt,())) (by kernel_rfl) (fun c E _=>qe c 0) (fun x=>by kernel_rfl)) _ _
  (fun _ _ x _ _ _=>by
   obtain ⟨c,_⟩:=x;obtain ⟨h1,h2⟩:=ym7 c;exact ⟨h1,h2⟩)
noncomputable def CHR:Cx:=cx [(99,qeg),(98,qhk),(43,cIn)] []
theorem zhw:CxOK Tryz.prog CHR:=zc qv ⟨qr9,qv8,qlv,trivial⟩ trivial
abbrev zx:Pt:=⟨34,0,⟨[(8,.d i64),(7,.d i64),(6,.d (.sl qd))],[.x 1 54 qm,.r 1 1 0]⟩,⟨[],[.x 1 54 qm,.r 1 1 0]⟩,⟨[(2,.d .bool)],[]⟩⟩
def qpg (x:zx.M.X):Fr zx.Out:=
 Fr.br (decide (x.1.1<x.1.2.1)) (Fr.need (0<=x.1.1/\x.1.1<((List.length x.1.2.2.1):Int)) (Fr.br (bif !(qeg.f ((List.getD x.1.2.2.1 (Int.toNat x.1.1) qd.dflt),())).1 then true else !(cIn.f (x.2.1.2.2.1.1,(List.getD x.1.2.2.1 (Int.toNat x.1.1) qd.dflt).2.1,())).1) (Fr.val (Rd.back ((false,()),()))) (Fr.val (Rd.next ((IntKind.i64.wrap (x.1.1+1),x.1.2.1,x.1.2.2.1,()),x.2.1,()))))) (Fr.val (Rd.out ((),x.2.1,())))
theorem qzl:qf Tryz.prog (qo Tryz.f75 0) zx.M zx qpg:=
 qf.of_run zhw (bs:=0) (Λ:=qq) rfl rfl rfl (fun E=>qe _ 0) (fun x=>by kernel_rfl)
abbrev qar:Type:=qn []×jd [.x 1 54 qm,.r 1 1 0]
def vo (e:qd.den) (s:qar):Fr (qar ⊕ zx.R.X):=
 Fr.br (bif !(qeg.f (e,())).1 then true else !(cIn.f (s.2.1.2.2.1.1,e.2.1,())).1) (Fr.val (.inr ((false,()),()))) (Fr.val (.inl ((),s.2.1,())))
def js (x:zx.M.X):Int×List qd.den×qar:=(x.1.1,x.1.2.2.1,x.1.2.2.2,x.2)
def qd7 (x:zx.M.X):Prop:=x.1.2.1=(x.1.2.2.1.length:Int)
def xw (s:qar):zx.E.X:=((),s.2.1,())
def qaj:qar:=(dfP _,dfM _)
def qdt:zx.R.X:=(dfP _,dfM _)
theorem qxn:qf Tryz.prog (.loop (qo Tryz.f75 0)) zx.M zx (FL vo js qd7 xw Rd.back qaj qdt):=by
 refine qf.list qzl vo js qd7 xw Rd.back qaj qdt ?_ ?_
 ·rintro ⟨⟨i,n,l,s⟩,m⟩ hg h0 h1 hb e he Q h;have hg:n=(l.length:Int):=hg;subst hg;have h0:0<=i:=h0;have h1:i<(l.length:Int):=h1;have hb:(l.length:Int)<=9223372036854775807:=hb;have hd:l.getD i.toNat qd.dflt=e:=zp he;have hw:=zu h0 h1 hb;dsimp only [js,vo,qpg,Fr.satP] at h ⊢;simp only [hd,hw] at h ⊢;refine ⟨fun _=>?_,fun hn=>absurd h1 (of_decide_eq_false hn)⟩
  repeat' first
   |exact h
   |exact ⟨h0,h1⟩
   |exact fun _=>⟨h0,h1⟩
   |exact h _ rfl rfl
   |refine ⟨?_,?_⟩
   |(intro (hc:_=true); replace h:=h.1 hc)
   |(intro (hc:_=false); replace h:=h.2 hc)
 ·rintro ⟨⟨i,n,l,s⟩,m⟩ hg h1 Q h;have hg:n=(l.length:Int):=hg;subst hg;exact ⟨fun hn=>absurd (ua5 hn) h1,fun _=>h⟩
def zd2 (Γ:Gm):St->Option Tr:=zx.han Γ zx.M (FL vo js qd7 xw Rd.back qaj qdt)
def kx (y:zx.M.X):qar ⊕ zx.R.X:=goL vo ((js y).2.1.drop (js y).1.toNat) (js y).2.2
def qzd (y:zx.M.X):Prop:=okL vo ((js y).2.1.drop (js y).1.toNat) (js y).2.2
def qpc (x:qn [.d qm]):Fr (qi [.bool]):=
 Fr.need (InL (qd7 ((0,((List.length x.1.2.2.2.1):Int),x.1.2.2.2.1,()),x.1,())) (js ((0,((List.length x.1.2.2.2.1):Int),x.1.2.2.2.1,()),x.1,()))) (Fr.need (qzd ((0,((List.length x.1.2.2.2.1):Int),x.1.2.2.2.1,()),x.1,())) (Fr.br (isL (kx ((0,((List.length x.1.2.2.2.1):Int),x.1.2.2.2.1,()),x.1,()))) (Fr.val (bif (qhk.f ((xw (qap qaj (kx ((0,((List.length x.1.2.2.2.1):Int),x.1.2.2.2.1,()),x.1,())))).2.1.2.2.1,())).1 then decide (((List.length (xw (qap qaj (kx ((0,((List.length x.1.2.2.2.1):Int),x.1.2.2.2.1,()),x.1,())))).2.1.2.2.2.1):Int)<=2000) else false,())) (Fr.val ((jk qdt (kx ((0,((List.length x.1.2.2.2.1):Int),x.1.2.2.2.1,()),x.1,()))).1.1,()))))
theorem quz:qa Tryz.prog 75 ⟨[.d qm],[.bool],fun xs=>(qpc xs).get,fun xs=>[(qpc xs).ok]⟩:=
 qg zhw (Λ:=(fun _=>zd2 CHR.Γ)) (fn:=Tryz.f75) (dfP [.d qm]) (by kernel_rfl) (fun c E hc=>jb hc (by kernel_rfl) (b:=qo Tryz.f75 0) (by kernel_rfl) (qf.han zhw rfl qxn)) (fun x=>by kernel_rfl)
theorem yk4 (e:qd.den) (s:qar):(vo e s).get=if (xy e&&inB s.2.1.2.2.1.1.1 s.2.1.2.2.1.1.2.1 e.2.1)=true then .inl s else .inr ((false,()),()):=by
 show (if (bif !(xy e) then true else !(inB s.2.1.2.2.1.1.1 s.2.1.2.2.1.1.2.1 e.2.1))=true then _ else _)=_;cases xy e<;>cases inB s.2.1.2.2.1.1.1 s.2.1.2.2.1.1.2.1 e.2.1<;>rfl
theorem yim {T σ:Type} (l:List T) (s:σ):qmh (fun (_:T) (s:σ)=>s) l s=s:=by
 induction l with
 |nil=>rfl
 |cons e r ih=>exact ih
theorem zy8:qa Tryz.prog 75 zrl:=
 conv quz _ _ (fun w F x vs hr _=>by
  obtain ⟨h,_⟩:=x;obtain ⟨v,vs',rfl,hv,_⟩:=hr;have hwf:=qs.wf hv.2.2;have hlen:(h.2.2.2.1.length:Int)<=9223372036854775807:=qno hwf.2.2.2.1.1;refine ⟨⟨⟨rfl,ua4 _,uak _,hlen⟩,qfi (step:=vo) (fun e s=>⟨fun _=>trivial,fun _=>trivial⟩) _ _,fun _=>trivial,fun _=>trivial⟩,?_⟩;have hres:=qcv (f:=fun _ s=>s) yk4 h.2.2.2.1 ((),(h,()));rw [zq9,yim] at hres;have hres':kx ((0,(h.2.2.2.1.length:Int),h.2.2.2.1,()),(h,()))=if (h.2.2.2.1.all fun c=>xy c&&inB h.2.2.1.1.1 h.2.2.1.1.2.1 c.2.1)=true then .inl ((),(h,())) else .inr ((false,()),()):=hres
  show (if isL (kx ((0,(h.2.2.2.1.length:Int),h.2.2.2.1,()),(h,())))=true then
   ((bif qeu (xw (qap qaj (kx ((0,(h.2.2.2.1.length:Int),h.2.2.2.1,()),(h,()))))).2.1.2.2.1 then decide (((xw (qap qaj (kx ((0,(h.2.2.2.1.length:Int),h.2.2.2.1,()),(h,()))))).2.1.2.2.2.1.length:Int)<=2000) else false,()):Bool×Unit)
   else ((jk qdt (kx ((0,(h.2.2.2.1.length:Int),h.2.2.2.1,()),(h,())))).1.1,()))=(qsr h,())
  rw [hres'];unfold qsr;cases ha:(h.2.2.2.1.all fun c=>xy c&&inB h.2.2.1.1.1 h.2.2.1.1.2.1 c.2.1) with
  |false=>
   show ((false,()):Bool×Unit)=_;rw [uea]
  |true=>
   show ((bif qeu h.2.2.1 then decide ((h.2.2.2.1.length:Int)<=2000) else false,()):Bool×Unit)=_;rw [ue6];have:decide ((h.2.2.2.1.length:Int)<=2000)=decide (h.2.2.2.1.length<=2000):=by
    rw [uau];simp only [uab];omega
   rw [this];cases qeu h.2.2.1<;>rfl)
abbrev zgy:List (FuncId×Ct):=[(189,qr4),(190,zg3)]
theorem qyh:qms Tryz.prog zgy:=⟨zx5,yih,trivial⟩
noncomputable def CW1:Cx:=cx zgy []
noncomputable def CW2:Cx:=cxK zgy [] (qql Tryz.prog CW1 XiN)
noncomputable def CW3:Cx:=cxK zgy [] (qql Tryz.prog CW2 XiO)
theorem ymd:CxOK Tryz.prog CW1:=zc qv qyh trivial
theorem yme:CxOK Tryz.prog CW2:=qc4 qv qyh trivial (qis ymd zvr)
theorem ymf:CxOK Tryz.prog CW3:=qc4 qv qyh trivial (qis yme zvs)
def zjk (h l c:Int):Fr (qi [i64,i64]):=
 Fr.br (decide (h≥c)) (Fr.val (0,5,())) (Fr.need ((h=0/\0<c)∨(c=10000/\h<10000)) (evT (zg3.f (h,l,c,())).1 (zg3.f (h,l,c,())).2.1 c))
def qwz (x:qn [.d i64,.d i64,.d i64]):Fr (qi [i64,i64]):=
 Fr.br (bif bif decide (x.1<0) then true else decide (x.2.1<0) then true else decide (x.2.2.1<0)) (Fr.val (0,1,()))
  (Fr.br (x.2.2.1==0) (Fr.val (0,6,()))
   (zjk (qr4.f (IntKind.u64.wrap x.1,IntKind.u64.wrap x.2.1,())).1 (qr4.f (IntKind.u64.wrap x.1,IntKind.u64.wrap x.2.1,())).2.1 (IntKind.u64.wrap x.2.2.1)))
theorem yin {p c:Int} (hp:0<=p) (hc:0<c) (hc2:c<=9223372036854775807) (h:p<18446744073709551616∨c=10000) :
  (zjk (p/18446744073709551616) (p%18446744073709551616) c).ok/\(zjk (p/18446744073709551616) (p%18446744073709551616) c).get=if qd6 p c>4000000000000000000 then (0,5,()) else (qd6 p c,0,()):=by
 have hsum:p/18446744073709551616*18446744073709551616+p%18446744073709551616=p:=by omega
 have hr1:=Int.emod_nonneg p (b:=c) (by omega);have hr2:=Int.emod_lt_of_pos p hc;have hq:=Int.ediv_nonneg hp (Int.le_of_lt hc);unfold zjk;by_cases hge:p/18446744073709551616≥c
 ·refine Fr.br_t (uan hge) ⟨trivial,?_⟩;rcases h with h|h
  ·omega
  ·subst h;have:qd6 p 10000>4000000000000000000:=by
    unfold qd6;split<;>omega
   rw [if_pos this];rfl
 ·have hneed:(p/18446744073709551616=0/\0<c)∨(c=10000/\p/18446744073709551616<10000):=by
   rcases h with h|h
   ·exact .inl ⟨by omega,hc⟩
   ·exact .inr ⟨h,by omega⟩
  refine Fr.br_f (uao hge) (Fr.need_ hneed ?_);show (evT ((p/18446744073709551616*18446744073709551616+p%18446744073709551616)/c) ((p/18446744073709551616*18446744073709551616+p%18446744073709551616)%c) c).ok/\(evT ((p/18446744073709551616*18446744073709551616+p%18446744073709551616)/c) ((p/18446744073709551616*18446744073709551616+p%18446744073709551616)%c) c).get=_;rw [hsum];have key:=zw1 (q:=p/c) (r:=p%c) (c:=c) ⟨hr1,hr2⟩ hc2 hq;refine ⟨key.1,?_⟩;rw [key.2];rfl
theorem znm {a b c:Int} (ha : -9223372036854775808<=a/\a<=9223372036854775807) (hb : -9223372036854775808<=b/\b<=9223372036854775807) (hc : -9223372036854775808<=c/\c<=9223372036854775807)
  (hp:0<=a->0<=b->a*b<18446744073709551616∨c=10000):(qwz (a,b,c,())).ok/\(qwz (a,b,c,())).get=((ka a b c).1,(ka a b c).2,()):=by
 unfold qwz;simp only [ymv];by_cases hn:a<0∨b<0∨c<0
 ·have hd:(decide (a<0) || (decide (b<0) || decide (c<0)))=true:=by simpa using hn
  refine Fr.br_t hd ⟨trivial,?_⟩;unfold ka;rw [if_pos hn];rfl
 ·have hd:(decide (a<0) || (decide (b<0) || decide (c<0)))=false:=by simpa using hn
  have ha0:0<=a:=by omega
  have hb0:0<=b:=by omega
  have hc0:0<=c:=by omega
  have hab0:0<=a*b:=Int.mul_nonneg ha0 hb0;refine Fr.br_f hd ?_;rw [show IntKind.u64.wrap a=a from qdk (by omega),show IntKind.u64.wrap b=b from qdk (by omega),show IntKind.u64.wrap c=c from qdk (by omega)];unfold ka;rw [if_neg hn];by_cases hz:c=0
  ·refine Fr.br_t (by simpa using hz) ⟨trivial,?_⟩;rw [if_pos hz];rfl
  ·refine Fr.br_f (by simpa using hz) ?_;rw [if_neg hz];have key:=yin (p:=a*b) (c:=c) hab0 (by omega) hc.2 (hp ha0 hb0);refine ⟨key.1,?_⟩;show (zjk (a*b/18446744073709551616) (a*b%18446744073709551616) c).get=_;rw [key.2];split<;>rfl
def zin:Ct:=⟨[.d i64,.d i64,.d i64],[i64,i64],fun x=>((ka x.1 x.2.1 x.2.2.1).1,(ka x.1 x.2.1 x.2.2.1).2,()),fun x=>[0<=x.1->0<=x.2.1->x.1*x.2.1<18446744073709551616∨x.2.2.1=10000]⟩
theorem yb5:qa Tryz.prog 111 zin:=
 flat (ps:=[.d i64,.d i64,.d i64]) (rs:=[i64,i64]) ymf (fn:=Tryz.f111) (fr:=qwz) (0,0,0,()) (by kernel_rfl) (fun x=>by kernel_rfl) _ _
  (fun w F x vs hr hok=>by
   obtain ⟨a,b,c,u⟩:=x;obtain ⟨v1,vs1,rfl,h1,v2,vs2,rfl,h2,v3,vs3,rfl,h3,_⟩:=hr;exact znm (qrj h1) (qrj h2) (qrj h3) hok)
def bpF (m b:Int):Int×Int:=ka m b 10000
def cBp:Ct:=⟨[.d i64,.d i64],[i64,i64],fun x=>((bpF x.1 x.2.1).1,(bpF x.1 x.2.1).2,()),fun _=>[]⟩
noncomputable def CW4:Cx:=cx [(111,zin)] []
theorem ymg:CxOK Tryz.prog CW4:=zc qv ⟨yb5,trivial⟩ trivial
theorem ygc:qa Tryz.prog 74 cBp:=
 flat (ps:=[.d i64,.d i64]) (rs:=[i64,i64]) ymg (fn:=Tryz.f74) (fr:=fun x=>Fr.need (0<=x.1->0<=x.2.1->x.1*x.2.1<18446744073709551616∨(10000:Int)=10000) (Fr.val (zin.f (x.1,x.2.1,10000,())))) (0,0,()) (by kernel_rfl) (fun x=>by kernel_rfl) _ _
  (fun w F x vs hr hok=>⟨⟨fun _ _=>.inr rfl,trivial⟩,rfl⟩)
abbrev zsu:Ty:=.pair i64 (.pair i64 (.pair i64 (.pair i64 (.pair i64 .unit))))
def f5 (f:zsu.den):List Int:=[f.1,f.2.1,f.2.2.1,f.2.2.2.1,f.2.2.2.2.1]
def qce:List Int->Int->Int×Int
 |[],m=>(m,0)
 |b::r,m=>if (bpF m b).2=0 then qce r (bpF m b).1 else bpF m b
noncomputable def CQ:Cx:=cx [(159,zrr),(141,qhz),(160,qf7),(161,ygd),(74,cBp)] []
theorem zqw:CxOK Tryz.prog CQ:=zc qv ⟨yla,zdr,zi7,yh6,ygc,trivial⟩ trivial
def MQ:LS:=⟨[(8,.d i64),(9,.d i64),(59,.d zsu),(60,.d i64)],[.x 3 132 qw,.r 3 3 0]⟩
def EQ:LS:=⟨[(8,.d i64),(9,.d i64)],[.x 3 132 qw,.r 3 3 0]⟩
def ptQ:Pt:=⟨79,1,MQ,EQ,⟨[],[]⟩⟩
def fQ (x:MQ.X):Fr ptQ.Out:=
 Fr.br (decide (x.1.2.2.2.1<5))
  (Fr.need (0<=x.1.2.2.2.1/\x.1.2.2.2.1<((5:Nat):Int))
   (Fr.br ((cBp.f (x.1.1,(f5 x.1.2.2.1).getD x.1.2.2.2.1.toNat 0,())).2.1 != 0)
    (Fr.val (Rd.out (((cBp.f (x.1.1,(f5 x.1.2.2.1).getD x.1.2.2.2.1.toNat 0,())).1,(cBp.f (x.1.1,(f5 x.1.2.2.1).getD x.1.2.2.2.1.toNat 0,())).2.1,()),x.2)))
    (Fr.val (Rd.next (((cBp.f (x.1.1,(f5 x.1.2.2.1).getD x.1.2.2.2.1.toNat 0,())).1,(cBp.f (x.1.1,(f5 x.1.2.2.1).getD x.1.2.2.2.1.toNat 0,())).2.1,x.1.2.2.1,IntKind.i64.wrap (x.1.2.2.2.1+1),()),x.2)))))
  (Fr.val (Rd.out ((x.1.1,x.1.2.1,()),x.2)))
theorem ys6:qf Tryz.prog (qo Tryz.f118 0) MQ ptQ fQ:=qf.of_run zqw (bs:=0) rfl rfl rfl (fun _=>qe _ 0) (fun x=>by kernel_rfl)
def InQ (i e:Int):Prop:=0<=i/\i<=5/\e=0
def FQ (x:MQ.X):Fr ptQ.Out:=Fr.need (InQ x.1.2.2.2.1 x.1.2.1) (Fr.val (.out (((qce ((f5 x.1.2.2.1).drop x.1.2.2.2.1.toNat) x.1.1).1,(qce ((f5 x.1.2.2.1).drop x.1.2.2.2.1.toNat) x.1.1).2,()),x.2)))
theorem ysy (m e i:Int) (f:zsu.den) (y:jd [.x 3 132 qw,.r 3 3 0]) (hinv:InQ i e) (Q:ptQ.Out->Prop) (hq:Q (.out (((qce ((f5 f).drop i.toNat) m).1,(qce ((f5 f).drop i.toNat) m).2,()),y))) :
  (fQ ((m,e,f,i,()),y)).satP fun
   |.next x'=>InQ x'.1.2.2.2.1 x'.1.2.1/\(5-x'.1.2.2.2.1).toNat<(5-i).toNat/\(FQ x').satP Q
   |.out y=>Q (.out y)
   |.back z=>Q (.back z)
   |.pan p=>Q (.pan p):=by
 obtain ⟨h1,h2,rfl⟩:=hinv;refine ⟨fun hi=>?_,fun hi=>?_⟩
 ·have hi':i<5:=ua5 hi;obtain ⟨k,rfl⟩:∃ k:Nat,i=k:=⟨i.toNat,by omega⟩;have hl:k<(f5 f).length:=by show k<5; omega
  have hw:IntKind.i64.wrap ((k:Int)+1)=k+1:=uag _ (by omega);have g1:(f5 f).getD (k:Int).toNat 0=(f5 f)[k]:=by
   rw [show (k:Int).toNat=k by omega,ua6,ua7 hl]; rfl
  have hd:(f5 f).drop (k:Int).toNat=(f5 f)[k]::(f5 f).drop (k+1):=by
   rw [show (k:Int).toNat=k by omega];exact ubp hl
  rw [hd] at hq;dsimp only [fQ,Fr.satP];rw [g1,hw];show (0<=(k:Int)/\(k:Int)<((5:Nat):Int))/\(((bpF m (f5 f)[k]).2 != 0)=true->Q (.out (((bpF m (f5 f)[k]).1,(bpF m (f5 f)[k]).2,()),y)))/\(((bpF m (f5 f)[k]).2 != 0)=false->InQ (k+1) (bpF m (f5 f)[k]).2/\(5-((k:Int)+1)).toNat<(5-(k:Int)).toNat/\(FQ (((bpF m (f5 f)[k]).1,(bpF m (f5 f)[k]).2,f,(k:Int)+1,()),y)).satP Q);refine ⟨⟨by omega,by omega⟩,fun hb=>?_,fun hb=>?_⟩
  ·have hb':¬ (bpF m (f5 f)[k]).2=0:=by simpa using hb
   have e:qce ((f5 f)[k]::(f5 f).drop (k+1)) m=bpF m (f5 f)[k]:=if_neg hb';rw [e] at hq;exact hq
  ·have hb':(bpF m (f5 f)[k]).2=0:=by simpa using hb
   have e:qce ((f5 f)[k]::(f5 f).drop (k+1)) m=qce ((f5 f).drop (k+1)) (bpF m (f5 f)[k]).1:=if_pos hb';rw [e] at hq;have hI:InQ ((k:Int)+1) (bpF m (f5 f)[k]).2:=⟨by omega,by omega,hb'⟩;refine ⟨hI,by omega,hI,?_⟩;have:((k:Int)+1).toNat=k+1:=by omega
   show Q (.out (((qce ((f5 f).drop ((k:Int)+1).toNat) (bpF m (f5 f)[k]).1).1,(qce ((f5 f).drop ((k:Int)+1).toNat) (bpF m (f5 f)[k]).1).2,()),y));rw [this];exact hq
 ·have hi':¬ i<5:=uac hi;have:i=5:=by omega
  subst this;exact hq
theorem yrd:qf Tryz.prog (.loop (qo Tryz.f118 0)) MQ ptQ FQ:=by
 refine qf.loop (n:=79) (id:=1) ys6 (inv:=fun x=>InQ x.1.2.2.2.1 x.1.2.1) (μ:=fun x=>(5-x.1.2.2.2.1).toNat) ?_ (fun x Q h=>h.1);rintro ⟨⟨m,e,f,i,_⟩,y⟩ hinv Q hq;exact ysy m e i f y hinv Q hq.2
def qko (v:qw.den) (r:jp.den) (c:qc.den):List Int:=
 [([v.2.1.1,v.2.1.2.1,v.2.1.2.2.1,v.2.1.2.2.2.1]:List Int).getD r.1.toNat 0,qk1 r.2.2.1 v.2.2.1 10000,v.2.2.2.1.getD r.2.2.2.1.toNat 0,v.2.2.2.2.1.getD c.1.toNat 0,c.2.2.2.2.1]
def qbj (v:qw.den) (r:jp.den) (c:qc.den):Int×Int:=
 if (qqt v&&(qh5 r.1 r.2.1 r.2.2.1 r.2.2.2.1&&qhl c.1 c.2.1 c.2.2.1 c.2.2.2.1 c.2.2.2.2.1))=true then
  if r.2.2.2.1≥v.2.2.2.1.length then (0,7) else
   if (qce (qko v r c) r.2.1).2=0 then (if (qce (qko v r c) r.2.1).1<v.2.2.2.2.2.1 then v.2.2.2.2.2.1 else (qce (qko v r c) r.2.1).1,0) else (0,(qce (qko v r c) r.2.1).2)
 else (0,1)
def quc:Ct:=⟨[.d qw,.d jp,.d qc],[i64,i64],fun x=>((qbj x.1 x.2.1 x.2.2.1).1,(qbj x.1 x.2.1 x.2.2.1).2,()),fun _=>[]⟩
def qw1 (x:qn [.d qw,.d jp,.d qc]):Fr (qi [i64,i64]):=
 Fr.br (bif bif !(zrr.f (x.1,())).1 then true else !(qhz.f (x.2.1,())).1 then true else !(qf7.f (x.2.2.1,())).1) (Fr.val (0,1,()))
  (Fr.br (decide (x.2.1.2.2.2.1≥x.1.2.2.2.1.length)) (Fr.val (0,7,()))
   (Fr.need (0<=x.2.1.1/\x.2.1.1<((4:Nat):Int))
    (Fr.need (0<=x.2.1.2.2.2.1/\x.2.1.2.2.2.1<x.1.2.2.2.1.length)
     (Fr.need (0<=x.2.2.1.1/\x.2.2.1.1<x.1.2.2.2.2.1.length)
      (Fr.need (InQ 0 0)
       (Fr.br ((qce (qko x.1 x.2.1 x.2.2.1) x.2.1.2.1).2 != 0) (Fr.val (0,(qce (qko x.1 x.2.1 x.2.2.1) x.2.1.2.1).2,()))
        (Fr.val (if (qce (qko x.1 x.2.1 x.2.2.1) x.2.1.2.1).1<x.1.2.2.2.2.2.1 then x.1.2.2.2.2.2.1 else (qce (qko x.1 x.2.1 x.2.2.1) x.2.1.2.1).1,0,()))))))))
theorem ykb:qa Tryz.prog 118 ⟨[.d qw,.d jp,.d qc],[i64,i64],fun xs=>(qw1 xs).get,fun xs=>[(qw1 xs).ok]⟩:=
 qg zqw (Λ:=fun _=>ptQ.han CQ.Γ MQ FQ) (fn:=Tryz.f118) (fr:=qw1) (ps:=[.d qw,.d jp,.d qc]) (rs:=[i64,i64]) (qw.dflt,jp.dflt,qc.dflt,()) (by kernel_rfl)
  (fun c E hc=>jb hc (by kernel_rfl) (b:=qo Tryz.f118 0) (by kernel_rfl) (qf.han zqw rfl yrd)) (fun x=>by kernel_rfl)
theorem ys1 (a b c:Bool):(bif bif !a then true else !b then true else !c) = !(a&&(b&&c)):=by cases a<;>cases b<;>cases c<;>rfl
theorem zvf {v:qw.den} (h:qqt v=true):v.2.2.2.2.1.length=8:=by
 unfold qqt at h;rw [Bool.and_eq_true] at h;have h1:=of_decide_eq_true h.1;exact h1.2.2.2.2.2.2.2
theorem zup {k v a z:Int} (h:qh5 k v a z=true):0<=k/\k<4/\0<=z:=by
 have h1:=ua5 h;exact ⟨h1.1,h1.2.1,h1.2.2.2.2.2.2.1⟩
theorem zi6 {p l g d s:Int} (h:qhl p l g d s=true):0<=p/\p<8:=by
 have h1:=ua5 h;exact ⟨h1.1,h1.2.1⟩
theorem yo4 (v:qw.den) (k val a z:Int) (c:qc.den):(qw1 (v,(k,val,a,z,()),c,())).ok/\(qw1 (v,(k,val,a,z,()),c,())).get=((qbj v (k,val,a,z,()) c).1,(qbj v (k,val,a,z,()) c).2,()):=by
 obtain ⟨p,l,g,d,s,_⟩:=c;unfold qw1 qbj;have e0:(bif bif !(zrr.f (v,())).1 then true else !(qhz.f ((k,val,a,z,()),())).1 then true else !(qf7.f ((p,l,g,d,s,()),())).1) = !(qqt v&&(qh5 k val a z&&qhl p l g d s)):=ys1 _ _ _;by_cases h:(qqt v&&(qh5 k val a z&&qhl p l g d s))=true
 ·rw [if_pos h];refine Fr.br_f (by rw [e0,h]; rfl) ?_;rw [ua1,ua1] at h;obtain ⟨h1,h2,h3⟩:=h;obtain ⟨r1,r2,r3⟩:=zup h2;obtain ⟨c1,c2⟩:=zi6 h3;have hp:=zvf h1;by_cases hz:z≥(v.2.2.2.1.length:Int)
  ·rw [if_pos hz];exact Fr.br_t (uan hz) ⟨trivial,rfl⟩
  ·rw [if_neg hz];have hz':z<(v.2.2.2.1.length:Int):=ufj.1 hz;refine Fr.br_f (uao hz) (Fr.need_ ⟨r1,by omega⟩ (Fr.need_ ⟨r3,hz'⟩ (Fr.need_ ⟨c1,?_⟩ (Fr.need_ ⟨by omega,by omega,rfl⟩ ?_))))
   ·show p<(v.2.2.2.2.1.length:Int);rw [hp];exact c2
   ·by_cases hb:(qce (qko v (k,val,a,z,()) (p,l,g,d,s,())) val).2=0
    ·have hb':((qce (qko v (k,val,a,z,()) (p,l,g,d,s,())) val).2 != 0)=false:=by rw [hb]; rfl
     rw [if_pos hb];exact Fr.br_f hb' ⟨trivial,rfl⟩
    ·have hb':((qce (qko v (k,val,a,z,()) (p,l,g,d,s,())) val).2 != 0)=true:=udu.2 hb;rw [if_neg hb];exact Fr.br_t hb' ⟨trivial,rfl⟩
 ·rw [if_neg h];simp only [Bool.not_eq_true] at h;exact Fr.br_t (by rw [e0,h]; rfl) ⟨trivial,rfl⟩
theorem yo5:qa Tryz.prog 118 quc:=
 wa ykb _ _ (fun _ _ x _ _ _=>by
  obtain ⟨v,⟨k,val,a,z,_⟩,c,_⟩:=x;exact yo4 v k val a z c)
noncomputable def CY1:Cx:=cx [] []
theorem ymh:CxOK Tryz.prog CY1:=zc (cs:=[]) (ps:=[]) qv trivial trivial
noncomputable def XiY:FuncId->Option (Func×(Nat->St->Option Tr)):=qam [(117,(Tryz.f117,qq)),(158,(Tryz.f158,qq))]
theorem ymn:∀ f fn Λ,XiY f=some (fn,Λ)->Tryz.prog.funcs[f]? = some fn/\∀ c E',fn.body=some c->jw Tryz.prog E' Λ c 0:=fun f fn Λ h=>by
 simp only [XiY,qam] at h;split at h
 ·rename_i hf;subst hf;cases h;exact ⟨by kernel_rfl,fun c E' _=>qe c 0⟩
 ·split at h
  ·rename_i hf;subst hf;cases h;exact ⟨by kernel_rfl,fun c E' _=>qe c 0⟩
  ·cases h
noncomputable def CY:Cx:=cxK [(118,quc)] [] (qql Tryz.prog CY1 XiY)
theorem zq0:CxOK Tryz.prog CY:=qc4 qv ⟨yo5,trivial⟩ trivial (qis ymh ymn)
def MY:LS:=⟨[(16,.d (.sl qc)),(17,.d i64),(18,.d i64),(9,.d i64),(10,.d .bool)],[.x 3 132 qw,.r 3 3 0,.x 4 33 jp,.r 4 4 0,.x 160001 3 i64,.g 8 158 [160001]]⟩
def EY:LS:=⟨[(9,.d i64),(10,.d .bool)],[]⟩
def ptY:Pt:=⟨43,0,MY,EY,⟨[(6,.d i64),(7,.d i64)],[]⟩⟩
def fY1 (v:qw.den) (r:jp.den) (l:List qc.den) (n i s:Int) (b:Bool) (q:Int) (c:qc.den):Fr ptY.Out:=
 Fr.br ((quc.f (v,r,c,())).2.1 != 0) (Fr.val (Rd.back ((0,(quc.f (v,r,c,())).2.1,()),())))
  (Fr.br b
   (Fr.br (decide ((quc.f (v,r,c,())).1>IntKind.i64.wrap (4000000000000000000-q)))
    (Fr.val (Rd.next ((l,n,IntKind.i64.wrap (i+1),0,false,()),(v,r,q,()))))
    (Fr.val (Rd.next ((l,n,IntKind.i64.wrap (i+1),IntKind.i64.wrap (q+(quc.f (v,r,c,())).1),true,()),(v,r,IntKind.i64.wrap (q+(quc.f (v,r,c,())).1),())))))
   (Fr.val (Rd.next ((l,n,IntKind.i64.wrap (i+1),s,b,()),(v,r,q,())))))
def fY (x:MY.X):Fr ptY.Out:=
 Fr.br (decide (x.1.2.2.1<x.1.2.1))
  (Fr.need (0<=x.1.2.2.1/\x.1.2.2.1<x.1.1.length) (fY1 x.2.1 x.2.2.1 x.1.1 x.1.2.1 x.1.2.2.1 x.1.2.2.2.1 x.1.2.2.2.2.1 x.2.2.2.1 (x.1.1.getD x.1.2.2.1.toNat qc.dflt)))
  (Fr.val (Rd.out ((x.1.2.2.2.1,x.1.2.2.2.2.1,()),())))
theorem ys8:qf Tryz.prog (qo Tryz.f78 0) MY ptY fY:=qf.of_run zq0 (bs:=0) rfl rfl rfl (fun _=>qe _ 0) (fun x=>by kernel_rfl)
def xr (v:qw.den) (r:jp.den):List qc.den->Int->Bool->Int×Bool×Int
 |[],q,b=>(if b=true then q else 0,b,0)
 |c::l,q,b=>if (qbj v r c).2=0 then
   (if b=true then (if (qbj v r c).1>4000000000000000000-q then xr v r l q false else xr v r l (q+(qbj v r c).1) true) else xr v r l q false)
  else (0,false,(qbj v r c).2)
theorem ydp {v:qw.den} {r:jp.den} {c:qc.den} (h:(qbj v r c).2=0):0<=(qbj v r c).1:=by
 unfold qbj at h ⊢;split
 ·rename_i h1;rw [if_pos h1] at h;split
  ·exact ua4 0
  ·rename_i h2;rw [if_neg h2] at h;split
   ·have hv:qqt v=true:=(Bool.and_eq_true_iff.1 h1).1;have hmin:0<=v.2.2.2.2.2.1:=by
     unfold qqt at hv;rw [Bool.and_eq_true] at hv;exact (of_decide_eq_true hv.1).2.2.1
    show 0<=(if (qce (qko v r c) r.2.1).1<v.2.2.2.2.2.1 then v.2.2.2.2.2.1 else (qce (qko v r c) r.2.1).1);split
    ·exact hmin
    ·rename_i h3;exact ub6 hmin (udt.1 h3)
   ·exact ua4 0
 ·exact ua4 0
def InY (l:List qc.den) (n i s:Int) (b:Bool) (q:Int):Prop:=0<=i/\i<=n/\n=l.length/\n<=9223372036854775807/\0<=q/\q<=4000000000000000000/\s=if b=true then q else 0
def zlt (y:Int×Bool×Int):Fr ptY.Out:=Fr.br (y.2.2 != 0) (Fr.val (Rd.back ((0,y.2.2,()),()))) (Fr.val (Rd.out ((y.1,y.2.1,()),())))
def FY (x:MY.X):Fr ptY.Out:=Fr.need (InY x.1.1 x.1.2.1 x.1.2.2.1 x.1.2.2.2.1 x.1.2.2.2.2.1 x.2.2.2.1) (zlt (xr x.2.1 x.2.2.1 (x.1.1.drop x.1.2.2.1.toNat) x.2.2.2.1 x.1.2.2.2.2.1))
theorem ys0 (v:qw.den) (r:jp.den) (l:List qc.den) (n i s:Int) (b:Bool) (q:Int) (hinv:InY l n i s b q) (Q:ptY.Out->Prop) (hq:(zlt (xr v r (l.drop i.toNat) q b)).satP Q) :
  (fY ((l,n,i,s,b,()),(v,r,q,()))).satP fun
   |.next x'=>InY x'.1.1 x'.1.2.1 x'.1.2.2.1 x'.1.2.2.2.1 x'.1.2.2.2.2.1 x'.2.2.2.1/\(x'.1.2.1-x'.1.2.2.1).toNat<(n-i).toNat/\(FY x').satP Q
   |.out y=>Q (.out y)
   |.back z=>Q (.back z)
   |.pan p=>Q (.pan p):=by
 obtain ⟨h1,h2,rfl,h4,h5,h6,h7⟩:=hinv;refine ⟨fun hi=>?_,fun hi=>?_⟩
 ·have hi':i<(l.length:Int):=ua5 hi;obtain ⟨k,rfl⟩:∃ k:Nat,i=k:=⟨i.toNat,by omega⟩;have hl:k<l.length:=by omega
  have g1:l.getD (k:Int).toNat qc.dflt=l[k]:=by
   rw [show (k:Int).toNat=k by omega,ua6,ua7 hl]; rfl
  have hw:IntKind.i64.wrap ((k:Int)+1)=k+1:=uag _ (by omega);have hd:l.drop (k:Int).toNat=l[k]::l.drop (k+1):=by
   rw [show (k:Int).toNat=k by omega];exact ubp hl
  have hn1:((k:Int)+1).toNat=k+1:=by omega
  rw [hd] at hq;refine ⟨⟨by omega,hi'⟩,?_⟩;show (fY1 v r l l.length k s b q (l.getD (k:Int).toNat qc.dflt)).satP _;rw [g1];unfold fY1;rw [hw];generalize l[k]=c at *;have hμ:((l.length:Int)-((k:Int)+1)).toNat<((l.length:Int)-k).toNat:=by omega
  refine ⟨fun he=>?_,fun he=>?_⟩
  ·have he':¬ (qbj v r c).2=0:=udu.1 he;have e:xr v r (c::l.drop (k+1)) q b=(0,false,(qbj v r c).2):=if_neg he';rw [e] at hq;exact hq.1 he
  ·have he':(qbj v r c).2=0:=by
    have:((qbj v r c).2 != 0)=false:=he;simpa using this
   have hpos:=ydp he';have e:xr v r (c::l.drop (k+1)) q b=(if b=true then (if (qbj v r c).1>4000000000000000000-q then xr v r (l.drop (k+1)) q false else xr v r (l.drop (k+1)) (q+(qbj v r c).1) true) else xr v r (l.drop (k+1)) q false):=if_pos he';rw [e] at hq;have hw2:IntKind.i64.wrap (4000000000000000000-q)=4000000000000000000-q:=uag _ (by omega);refine ⟨fun hb=>?_,fun hb=>?_⟩
   ·rw [if_pos hb] at hq;rw [hw2];refine ⟨fun hg=>?_,fun hg=>?_⟩
    ·have hg':(qbj v r c).1>4000000000000000000-q:=ua5 hg;rw [if_pos hg'] at hq;have hI:InY l l.length ((k:Int)+1) 0 false q:=⟨by omega,by omega,rfl,h4,h5,h6,rfl⟩;refine ⟨hI,hμ,hI,?_⟩;show (zlt (xr v r (l.drop ((k:Int)+1).toNat) q false)).satP Q;rw [hn1];exact hq
    ·have hg':¬ (qbj v r c).1>4000000000000000000-q:=uac hg;rw [if_neg hg'] at hq;have hw3:IntKind.i64.wrap (q+(quc.f (v,r,c,())).1)=q+(qbj v r c).1:=uag (q+(qbj v r c).1) (by omega);rw [hw3];have hI:InY l l.length ((k:Int)+1) (q+(qbj v r c).1) true (q+(qbj v r c).1):=⟨by omega,by omega,rfl,h4,by omega,by omega,rfl⟩;refine ⟨hI,hμ,hI,?_⟩;show (zlt (xr v r (l.drop ((k:Int)+1).toNat) (q+(qbj v r c).1) true)).satP Q;rw [hn1];exact hq
   ·subst hb;rw [if_neg (by decide)] at hq;have hI:InY l l.length ((k:Int)+1) s false q:=⟨by omega,by omega,rfl,h4,h5,h6,h7⟩;refine ⟨hI,hμ,hI,?_⟩;show (zlt (xr v r (l.drop ((k:Int)+1).toNat) q false)).satP Q;rw [hn1];exact hq
 ·have hi':¬ i<(l.length:Int):=uac hi;have e:l.drop i.toNat=[]:=uc5 (by omega);rw [e] at hq;subst h7;exact hq.2 rfl
theorem yrf:qf Tryz.prog (.loop (qo Tryz.f78 0)) MY ptY FY:=by
 refine qf.loop (n:=43) (id:=0) ys8 (inv:=fun x=>InY x.1.1 x.1.2.1 x.1.2.2.1 x.1.2.2.2.1 x.1.2.2.2.2.1 x.2.2.2.1) (μ:=fun x=>(x.1.2.1-x.1.2.2.1).toNat) ?_ (fun x Q h=>h.1);rintro ⟨⟨l,n,i,s,b,_⟩,v,r,q,_⟩ hinv Q hq;exact ys0 v r l n i s b q hinv Q hq.2
def qp3 (v:qw.den) (r:jp.den) (l:List qc.den):Int×Int:=
 if (xr v r l 0 true).2.2=0 then (if (xr v r l 0 true).2.1=true then ((xr v r l 0 true).1,0) else (0,5)) else (0,(xr v r l 0 true).2.2)
def qz0:Ct:=⟨[.d qw,.d jp,.d (.sl qc)],[i64,i64],fun x=>((qp3 x.1 x.2.1 x.2.2.1).1,(qp3 x.1 x.2.1 x.2.2.1).2,()),fun _=>[]⟩
def zkg (x:qn [.d qw,.d jp,.d (.sl qc)]):Fr (qi [i64,i64]):=
 Fr.need (InY x.2.2.1 x.2.2.1.length 0 0 true 0)
  (Fr.br ((xr x.1 x.2.1 x.2.2.1 0 true).2.2 != 0) (Fr.val (0,(xr x.1 x.2.1 x.2.2.1 0 true).2.2,()))
   (Fr.br (!(xr x.1 x.2.1 x.2.2.1 0 true).2.1) (Fr.val (0,5,())) (Fr.val ((xr x.1 x.2.1 x.2.2.1 0 true).1,0,()))))
theorem yfx:qa Tryz.prog 78 ⟨[.d qw,.d jp,.d (.sl qc)],[i64,i64],fun xs=>(zkg xs).get,fun xs=>[(zkg xs).ok]⟩:=
 qg zq0 (Λ:=fun _=>ptY.han CY.Γ MY FY) (fn:=Tryz.f78) (fr:=zkg) (ps:=[.d qw,.d jp,.d (.sl qc)]) (rs:=[i64,i64]) (qw.dflt,jp.dflt,[],()) (by kernel_rfl)
  (fun c E hc=>jb hc (by kernel_rfl) (b:=qo Tryz.f78 0) (by kernel_rfl) (qf.han zq0 rfl yrf)) (fun x=>by kernel_rfl)
theorem ylj:qa Tryz.prog 78 qz0:=
 wa yfx _ _ (fun w F x vs hr _=>by
  obtain ⟨v,r,l,_⟩:=x;obtain ⟨v1,vs1,rfl,_,v2,vs2,rfl,_,v3,vs3,rfl,h3,_⟩:=hr;have hlen:(l.length:Int)<=9223372036854775807:=qcn h3;have hI:InY l l.length 0 0 true 0:=⟨by omega,by omega,rfl,hlen,by decide,by decide,rfl⟩;refine Fr.need_ hI ?_;show (Fr.br ((xr v r l 0 true).2.2 != 0) (Fr.val (0,(xr v r l 0 true).2.2,())) (Fr.br (!(xr v r l 0 true).2.1) (Fr.val (0,5,())) (Fr.val ((xr v r l 0 true).1,0,())))  : Fr (qi [i64,i64])).ok/\(Fr.br ((xr v r l 0 true).2.2 != 0) (Fr.val (0,(xr v r l 0 true).2.2,())) (Fr.br (!(xr v r l 0 true).2.1) (Fr.val (0,5,())) (Fr.val ((xr v r l 0 true).1,0,())))  : Fr (qi [i64,i64])).get=((qp3 v r l).1,(qp3 v r l).2,());unfold qp3;generalize xr v r l 0 true=y;obtain ⟨s,b,e⟩:=y;by_cases he:e=0
  ·subst he;refine Fr.br_f rfl ?_;cases b with
   |true=>exact Fr.br_f rfl ⟨trivial,rfl⟩
   |false=>exact Fr.br_t rfl ⟨trivial,rfl⟩
  ·rw [if_neg he];exact Fr.br_t (udu.2 he) ⟨trivial,rfl⟩)
noncomputable def CC1:Cx:=cx [(115,qq1)] []
theorem ylq:CxOK Tryz.prog CC1:=zc (ps:=[]) qv ⟨zk0,trivial⟩ trivial
noncomputable def XiC:FuncId->Option (Func×(Nat->St->Option Tr)):=qam [(114,(Tryz.f114,qq)),(116,(Tryz.f116,qq))]
theorem yml:∀ f fn Λ,XiC f=some (fn,Λ)->Tryz.prog.funcs[f]? = some fn/\∀ c E',fn.body=some c->jw Tryz.prog E' Λ c 0:=fun f fn Λ h=>by
 simp only [XiC,qam] at h;split at h
 ·rename_i hf;subst hf;cases h;exact ⟨by kernel_rfl,fun c E' _=>qe c 0⟩
 ·split at h
  ·rename_i hf;subst hf;cases h;exact ⟨by kernel_rfl,fun c E' _=>qe c 0⟩
  ·cases h
noncomputable def CC2:Cx:=cxK [(105,zit)] [] (qql Tryz.prog CC1 XiC)
theorem zht:CxOK Tryz.prog CC2:=qc4 (ps:=[]) qv ⟨zls,trivial⟩ trivial (qis ylq yml)
abbrev msC:List MI:=[.x 280001 54 qm,.r 1 280001 0,.x 280003 31 zy,.r 3 280003 0,.x 280004 122 ql,.r 4 280004 0,.y 280005 110 [(some 122,ql)],.r 5 280005 0,.g 6 114 [280004,280005],.x 6 132 qw,.r 10006 6 0]
def MC:LS:=⟨[(26,.d jg),(27,.d i64),(28,.d i64)],msC⟩
def EC:LS:=⟨[],msC⟩
def zdp:Pt:=⟨52,0,MC,EC,⟨[],[]⟩⟩
def qd9 (out:List ql.den):Int:=IntKind.i64.wrap ((out.length:Int)-1)
def qh7 (s:ql.den) (b:Int):ql.den:=((s.1.1,b,()),s.2)
def ybz {α:Type} (s:ql.den) (out:List ql.den) (day:Int) (K:List ql.den->Fr α):Fr α:=
 Fr.br (s.1.1==day) (K out)
  (Fr.need (decide (qd9 out≥0)=true->0<=qd9 out/\qd9 out<(out.length:Int))
   (Fr.need (decide (qd9 out≥0)=true->(qd9 out).toNat<out.length)
    (Fr.br (bif decide (qd9 out≥0) then (qq1.f (out.getD (qd9 out).toNat ql.dflt,qh7 s day,())).1 else false)
     (Fr.need (0<=qd9 out/\qd9 out<(out.length:Int)) (Fr.need ((qd9 out).toNat<out.length) (K (out.set (qd9 out).toNat (qh7 (out.getD (qd9 out).toNat ql.dflt) day)))))
     (Fr.need (out.length + [qh7 s day].length<=maxLen/\(out.length + [qh7 s day].length)*88<=140737488355328) (K (out++[qh7 s day]))))))
def ygq {α:Type} (s:ql.den) (c:qd.den) (K:ql.den->Fr α):Fr α:=
 Fr.br (c.2.2.1==1) (K (s.1,s.2.1,c.2.2.2.1,s.2.2.2.1,s.2.2.2.2.1,()))
  (Fr.br (c.2.2.1==2) (Fr.need (([]:List qc.den).length+c.2.2.2.2.1.length<=maxLen/\(([]:List qc.den).length+c.2.2.2.2.1.length)*40<=140737488355328) (K (s.1,s.2.1,s.2.2.1,[]++c.2.2.2.2.1,s.2.2.2.2.1,())))
   (Fr.br (c.2.2.1==3) (K (s.1,false,s.2.2.1,s.2.2.2.1,s.2.2.2.2.1,()))
    (Fr.br (c.2.2.1==4) (K (s.1,true,s.2.2.1,s.2.2.2.1,s.2.2.2.2.1,())) (K s))))
def ycl (x:MC.X):Fr zdp.Out:=
 let l:List Int:=x.1.1; let n:Int:=x.1.2.1; let i:Int:=x.1.2.2.1; let h:qm.den:=x.2.1; let sp:zy.den:=x.2.2.1; let s:ql.den:=x.2.2.2.1; let out:List ql.den:=x.2.2.2.2.1.1; let v:qw.den:=x.2.2.2.2.2.1
 let j:Int:=l.getD i.toNat i64.dflt
 Fr.br (decide (i<n))
  (Fr.need (0<=i/\i<(l.length:Int))
   (Fr.need (0<=j/\j<((chL h).length:Int))
    (ybz s out (vt h j).2.1 fun out'=>
     Fr.need (0<=j/\j<((chL h).length:Int))
      (ygq (((vt h j).2.1,s.1.2.1,()),s.2) (vt h j) fun s'=>Fr.val (Rd.next ((l,n,IntKind.i64.wrap (i+1),()),(h,sp,s',(out',()),v,())))))))
  (Fr.val (Rd.out ((),(h,sp,s,(out,()),v,()))))
theorem yro:qf Tryz.prog (qo Tryz.f77 0) MC zdp ycl:=qf.of_run zht (bs:=280000) rfl rfl rfl (fun _=>qe _ 0) (fun x=>by kernel_rfl)
theorem zl1 (s:ql.den):(out:List ql.den)->0<out.length->qf4 out s=if qji (out.getD (out.length-1) ql.dflt) s=true then out.set (out.length-1) (qh7 (out.getD (out.length-1) ql.dflt) s.1.2.1) else out++[s]
 |[],h=>absurd h (by decide)
 |[x],_=>rfl
 |x::y::r,_=>by
  have ih:=zl1 s (y::r) (by simp);have e1:(x::y::r).length-1=((y::r).length-1)+1:=by simp
  have e2:(x::y::r).getD ((x::y::r).length-1) ql.dflt=(y::r).getD ((y::r).length-1) ql.dflt:=by
   rw [e1];rfl
  show x::qf4 (y::r) s=_;rw [ih,e2,e1];split
  ·rfl
  ·rfl
theorem qvm (s:ql.den):(out:List ql.den)->(qf4 out s).length<=out.length+1
 |[]=>by simp [qf4]
 |[x]=>by unfold qf4; split<;>simp
 |x::y::r=>by
  have:=qvm s (y::r);simp only [qf4,uaf] at this ⊢;omega
theorem qqd (s:ql.den) (out:List ql.den) (day:Int):(qsh s out day).length<=out.length+1:=by
 unfold qsh;split
 ·omega
 ·exact qvm _ _
theorem ydg {out:List ql.den} (h:out.length<=1000000):qd9 out=(out.length:Int)-1:=uag _ (by omega)
theorem zji {α:Type} {s:ql.den} {out:List ql.den} {day:Int} {K:List ql.den->Fr α} {Q:α->Prop} (hl:out.length<=1000000) (h:(K (qsh s out day)).satP Q):(ybz s out day K).satP Q:=by
 unfold qsh at h;have hw:=ydg hl;have hm:out.length+1<=maxLen/\(out.length+1)*88<=140737488355328:=⟨by unfold maxLen; omega,by omega⟩;refine ⟨fun hb=>?_,fun hb=>?_⟩
 ·have hb':s.1.1=day:=eq_of_beq (α:=Int) hb;rw [if_pos hb'] at h;exact h
 ·have hb':¬ s.1.1=day:=ucp (α:=Int) hb;rw [if_neg hb'] at h;refine ⟨fun hd=>?_,fun hd=>?_,?_⟩
  ·have:=ua5 hd;omega
  ·have:=ua5 hd;omega
  ·by_cases h0:0<out.length
   ·have hge:decide (qd9 out≥0)=true:=uan (by omega);have ht:(qd9 out).toNat=out.length-1:=by omega
    have hp:=zl1 (qh7 s day) out h0;rw [hge,ht];refine ⟨fun hh=>?_,fun hh=>?_⟩
    ·have hh':qji (out.getD (out.length-1) ql.dflt) (qh7 s day)=true:=hh;rw [if_pos hh'] at hp;refine ⟨⟨by omega,by omega⟩,by omega,?_⟩;have e:qf4 out ((s.1.1,day,()),s.2)=out.set (out.length-1) (qh7 (out.getD (out.length-1) ql.dflt) day):=hp;rw [e] at h;exact h
    ·have hh':¬ qji (out.getD (out.length-1) ql.dflt) (qh7 s day)=true:=by
      intro hx;have:qji (out.getD (out.length-1) ql.dflt) (qh7 s day)=false:=hh;rw [hx] at this;cases this
     rw [if_neg hh'] at hp;have e:qf4 out ((s.1.1,day,()),s.2)=out++[qh7 s day]:=hp;rw [e] at h;exact ⟨hm,h⟩
   ·have h00:out=[]:=ucw.1 (by omega);subst h00;have hge:decide (qd9 []≥0)=false:=uao (by rw [hw]; decide);rw [hge];exact ⟨fun hh=>(by cases hh),fun _=>⟨hm,h⟩⟩
theorem zw0 {α:Type} {s:ql.den} {c:qd.den} {K:ql.den->Fr α} {Q:α->Prop} (hl:c.2.2.2.2.1.length<=1000000) (h:(K (zhb s c)).satP Q):(ygq s c K).satP Q:=by
 unfold zhb at h;have hm:([]:List qc.den).length+c.2.2.2.2.1.length<=maxLen/\(([]:List qc.den).length+c.2.2.2.2.1.length)*40<=140737488355328:=by
  simp only [List.length_nil,Nat.zero_add];exact ⟨by unfold maxLen; omega,by omega⟩
 refine ⟨fun k=>?_,fun k=>⟨fun k2=>?_,fun k2=>⟨fun k3=>?_,fun k3=>⟨fun k4=>?_,fun k4=>?_⟩⟩⟩⟩
 ·have k':c.2.2.1=1:=eq_of_beq (α:=Int) k;rw [if_pos k'] at h;exact h
 ·have k':¬ c.2.2.1=1:=ucp (α:=Int) k;have k2':c.2.2.1=2:=eq_of_beq (α:=Int) k2;rw [if_neg k',if_pos k2'] at h;exact ⟨hm,h⟩
 ·have k':¬ c.2.2.1=1:=ucp (α:=Int) k;have k2':¬ c.2.2.1=2:=ucp (α:=Int) k2;have k3':c.2.2.1=3:=eq_of_beq (α:=Int) k3;rw [if_neg k',if_neg k2',if_pos k3'] at h;exact h
 ·have k':¬ c.2.2.1=1:=ucp (α:=Int) k;have k2':¬ c.2.2.1=2:=ucp (α:=Int) k2;have k3':¬ c.2.2.1=3:=ucp (α:=Int) k3;have k4':c.2.2.1=4:=eq_of_beq (α:=Int) k4;rw [if_neg k',if_neg k2',if_neg k3',if_pos k4'] at h;exact h
 ·have k':¬ c.2.2.1=1:=ucp (α:=Int) k;have k2':¬ c.2.2.1=2:=ucp (α:=Int) k2;have k3':¬ c.2.2.1=3:=ucp (α:=Int) k3;have k4':¬ c.2.2.1=4:=ucp (α:=Int) k4;rw [if_neg k',if_neg k2',if_neg k3',if_neg k4'] at h;exact h
structure InvC5 (l:List Int) (n i:Int) (h:qm.den) (out:List ql.den):Prop where
 i0:0<=i
 il:i<=n
 nl:n=l.length
 few:l.length<=500000
 inl:∀ x∈l,0<=x/\x<((chL h).length:Int)
 cov:∀ c∈chL h,c.2.2.2.2.1.length<=1000000
 outs:(out.length:Int)<=i
def FC5 (x:MC.X):Fr zdp.Out:=
 let l:List Int:=x.1.1; let n:Int:=x.1.2.1; let i:Int:=x.1.2.2.1; let h:qm.den:=x.2.1; let sp:zy.den:=x.2.2.1; let s:ql.den:=x.2.2.2.1; let out:List ql.den:=x.2.2.2.2.1.1; let v:qw.den:=x.2.2.2.2.2.1
 Fr.need (InvC5 l n i h out) (Fr.val (Rd.out ((),(h,sp,(qk3 ((l.drop i.toNat).map (vt h)) s out).1,((qk3 ((l.drop i.toNat).map (vt h)) s out).2,()),v,()))))
theorem yq0 (l:List Int) (n i:Int) (h:qm.den) (sp:zy.den) (s:ql.den) (out:List ql.den) (v:qw.den) (hinv:InvC5 l n i h out) (Q:zdp.Out->Prop)
  (hq:Q (Rd.out ((),(h,sp,(qk3 ((l.drop i.toNat).map (vt h)) s out).1,((qk3 ((l.drop i.toNat).map (vt h)) s out).2,()),v,())))) :
  (ycl ((l,n,i,()),(h,sp,s,(out,()),v,()))).satP fun
   |.next x'=>InvC5 x'.1.1 x'.1.2.1 x'.1.2.2.1 x'.2.1 x'.2.2.2.2.1.1/\((x'.1.2.1:Int)-x'.1.2.2.1).toNat<(n-i).toNat/\(FC5 x').satP Q
   |.out y=>Q (.out y)
   |.back z=>Q (.back z)
   |.pan p=>Q (.pan p):=by
 obtain ⟨h0,h1,rfl,h2,h3,h4,h5⟩:=hinv;obtain ⟨i',rfl⟩:∃ n:Nat,i=n:=⟨i.toNat,by omega⟩;simp only [Int.toNat_natCast] at hq;dsimp only [ycl,Fr.satP,Ty.den,PT.den];simp only [Int.toNat_natCast];refine ⟨fun hi=>?_,fun hi=>?_⟩
 ·have hlt:i'<l.length:=by have:(i':Int)<(l.length:Int):=ua5 hi; omega
  have w:IntKind.i64.wrap ((i':Int)+1)=(i'+1:Nat):=qot (by omega);rw [w];have hm:=h3 _ (vu (d:=(0:Int)) hlt);rw [yij hlt,ud0] at hq;have hcm:vt h (l.getD i' 0)∈chL h:=by
   unfold vt;exact vu (by omega)
  have hE:=qqd s out (vt h (l.getD i' 0)).2.1;have hI:InvC5 l (l.length:Int) ((i'+1:Nat):Int) h (qsh s out (vt h (l.getD i' 0)).2.1):=⟨by omega,by omega,rfl,h2,h3,h4,by omega⟩;have hμ:((l.length:Int)-((i'+1:Nat):Int)).toNat<((l.length:Int)-(i':Int)).toNat:=by omega
  refine ⟨⟨by omega,by omega⟩,hm,zji (by omega) ⟨hm,zw0 (h4 _ hcm) ⟨hI,hμ,hI,hq⟩⟩⟩
 ·have hge:¬ i'<l.length:=by have:¬ (i':Int)<(l.length:Int):=uac hi; omega
  rw [uc5 (by omega)] at hq;exact hq
theorem yop:qf Tryz.prog (.loop (qo Tryz.f77 0)) MC zdp FC5:=by
 refine qf.loop (n:=52) (id:=0) yro (inv:=fun x=>InvC5 x.1.1 x.1.2.1 x.1.2.2.1 x.2.1 x.2.2.2.2.1.1) (μ:=fun x=>((x.1.2.1:Int)-x.1.2.2.1).toNat) ?_ (fun x Q h=>h.1);rintro ⟨⟨l,n,i,_⟩,h,sp,s,⟨out,_⟩,v,_⟩ hinv Q hq;exact yq0 l n i h sp s out v hinv Q hq.2
noncomputable def yaw:FuncId->Option (Func×(Nat->St->Option Tr)):=qam [(77,(Tryz.f77,fun _=>zdp.han CC2.Γ MC FC5))]
theorem yhs:∀ f fn Λ,yaw f=some (fn,Λ)->Tryz.prog.funcs[f]? = some fn/\∀ c E',fn.body=some c->jw Tryz.prog E' Λ c 0:=fun f fn Λ h=>by
 simp only [yaw,qam] at h;split at h
 ·rename_i hf;subst hf;cases h;exact ⟨by kernel_rfl,fun c E' hc=>jb hc (by kernel_rfl) (b:=qo Tryz.f77 0) (by kernel_rfl) (qf.han zht rfl yop)⟩
 ·cases h
noncomputable def COf:Cx:=cxK [(75,zrl),(76,quf),(78,qz0)] [] (qql Tryz.prog CC2 yaw)
theorem zh1:CxOK Tryz.prog COf:=qc4 (ps:=[]) qv ⟨zy8,yff,ylj,trivial⟩ trivial (qis zht yhs)
def MO:LS:=⟨[(29,.d i64),(30,.d i64)],[.o 8 122 ql,.al 28 8,.x 6 132 qw,.r 6 6 0]⟩
def EO:LS:=⟨[],[.o 8 122 ql]⟩
def ptO:Pt:=⟨56,0,MO,EO,⟨[(4,.d qag),(5,.d i64)],[]⟩⟩
def yrS (v:qw.den) (s:ql.den):Int×Int:=qp3 v s.2.2.1 s.2.2.2.1
def qon (s:ql.den) (y:Int):ql.den:=(s.1,s.2.1,s.2.2.1,s.2.2.2.1,y,())
def fO (x:MO.X):Fr ptO.Out:=
 let n:Int:=x.1.1; let i:Int:=x.1.2.1; let l:List ql.den:=x.2.1; let v:qw.den:=x.2.2.1
 let s:ql.den:=l.getD i.toNat ql.dflt
 Fr.br (decide (i<n))
  (Fr.need (0<=i/\i<(l.length:Int)) (Fr.need (i.toNat<l.length)
   (Fr.br (!s.2.1) (Fr.val (Rd.next ((n,IntKind.i64.wrap (i+1),()),(l,v,()))))
    (Fr.need (0<=i/\i<(l.length:Int)) (Fr.need (i.toNat<l.length)
     (Fr.br ((qz0.f (v,s.2.2.1,s.2.2.2.1,())).2.1 != 0) (Fr.val (Rd.back (([],(qz0.f (v,s.2.2.1,s.2.2.2.1,())).2.1,()),())))
      (Fr.val (Rd.next ((n,IntKind.i64.wrap (i+1),()),(l.set i.toNat (qon s (qz0.f (v,s.2.2.1,s.2.2.2.1,())).1),v,()))))))))))
  (Fr.val (Rd.out ((),(l,()))))
theorem ys5:qf Tryz.prog (qo Tryz.f46 0) MO ptO fO:=qf.of_run zh1 (bs:=0) rfl rfl rfl (fun _=>qe _ 0) (fun x=>by kernel_rfl)
def qfj (v:qw.den) (s:ql.den):ql.den:=if s.2.1=true then qon s (yrS v s).1 else s
def qan (v:qw.den):List ql.den->Int
 |[]=>0
 |s::l=>if s.2.1=true then (if (yrS v s).2=0 then qan v l else (yrS v s).2) else qan v l
structure InvO (n i:Int) (l:List ql.den):Prop where
 i0:0<=i
 il:i<=n
 nl:n=l.length
 few:l.length<=1000000
def qjl (l:List ql.den) (e:Int):Fr ptO.Out:=Fr.br (e != 0) (Fr.val (Rd.back (([],e,()),()))) (Fr.val (Rd.out ((),(l,()))))
def FO (x:MO.X):Fr ptO.Out:=
 let n:Int:=x.1.1; let i:Int:=x.1.2.1; let l:List ql.den:=x.2.1; let v:qw.den:=x.2.2.1
 Fr.need (InvO n i l) (qjl (l.take i.toNat++(l.drop i.toNat).map (qfj v)) (qan v (l.drop i.toNat)))
theorem ysx (n i:Int) (l:List ql.den) (v:qw.den) (hinv:InvO n i l) (Q:ptO.Out->Prop) (hq:(qjl (l.take i.toNat++(l.drop i.toNat).map (qfj v)) (qan v (l.drop i.toNat))).satP Q) :
  (fO ((n,i,()),(l,v,()))).satP fun
   |.next x'=>InvO x'.1.1 x'.1.2.1 x'.2.1/\((x'.1.1:Int)-x'.1.2.1).toNat<(n-i).toNat/\(FO x').satP Q
   |.out y=>Q (.out y)
   |.back z=>Q (.back z)
   |.pan p=>Q (.pan p):=by
 obtain ⟨h0,h1,rfl,h2⟩:=hinv;obtain ⟨i',rfl⟩:∃ n:Nat,i=n:=⟨i.toNat,by omega⟩;simp only [Int.toNat_natCast] at hq;dsimp only [fO,Fr.satP,Ty.den,PT.den];simp only [Int.toNat_natCast];refine ⟨fun hi=>?_,fun hi=>?_⟩
 ·have hlt:i'<l.length:=by have:(i':Int)<(l.length:Int):=ua5 hi; omega
  have w:IntKind.i64.wrap ((i':Int)+1)=(i'+1:Nat):=qot (by omega);rw [w];have hg:l.getD i' ql.dflt=l[i']:=by rw [ua6,ua7 hlt]; rfl
  have hd:l.drop i'=l.getD i' ql.dflt::l.drop (i'+1):=by rw [hg]; exact ubp hlt
  have hμ:((l.length:Int)-((i'+1:Nat):Int)).toNat<((l.length:Int)-(i':Int)).toNat:=by omega
  have hb:0<=(i':Int)/\(i':Int)<(l.length:Int):=⟨by omega,by omega⟩;rw [hd] at hq;generalize hs:l.getD i' ql.dflt=s at *;have htk:l.take (i'+1)=l.take i'++[s]:=by
   rw [hg];exact (uge hlt).symm
  refine ⟨hb,hlt,fun hoff=>?_,fun hon=>⟨hb,hlt,fun he=>?_,fun he=>?_⟩⟩
  ·have hoff':¬ s.2.1=true:=by
    intro hx;rw [hx] at hoff;cases hoff
   have hI:InvO (l.length:Int) ((i'+1:Nat):Int) l:=⟨by omega,by omega,rfl,h2⟩;refine ⟨hI,hμ,hI,?_⟩;have e1:qan v (s::l.drop (i'+1))=qan v (l.drop (i'+1)):=if_neg hoff';have e2:qfj v s=s:=if_neg hoff';rw [e1,ud0,e2] at hq;show (qjl (l.take (i'+1)++(l.drop (i'+1)).map (qfj v)) (qan v (l.drop (i'+1)))).satP Q;rw [htk,ubf];exact hq
  ·have hon':s.2.1=true:=by
    cases hx:s.2.1 with
    |true=>rfl
    |false=>rw [hx] at hon; cases hon
   have he':¬ (yrS v s).2=0:=udu.1 he;have e1:qan v (s::l.drop (i'+1))=(yrS v s).2:=by
    unfold qan;rw [if_pos hon',if_neg he']
   rw [e1] at hq;exact hq.1 he
  ·have hon':s.2.1=true:=by
    cases hx:s.2.1 with
    |true=>rfl
    |false=>rw [hx] at hon; cases hon
   have he':(yrS v s).2=0:=by
    have:((yrS v s).2 != 0)=false:=he;simpa using this
   have hlen:(l.set i' (qon s (yrS v s).1)).length=l.length:=uct;have hI:InvO (l.length:Int) ((i'+1:Nat):Int) (l.set i' (qon s (yrS v s).1)):=⟨by omega,by omega,by rw [hlen],by rw [hlen]; exact h2⟩;refine ⟨hI,hμ,hI,?_⟩;have e1:qan v (s::l.drop (i'+1))=qan v (l.drop (i'+1)):=by
    conv=>lhs; unfold qan
    rw [if_pos hon',if_pos he']
   have e2:qfj v s=qon s (yrS v s).1:=if_pos hon';rw [e1,ud0,e2] at hq;show (qjl ((l.set i' (qon s (yrS v s).1)).take (i'+1)++((l.set i' (qon s (yrS v s).1)).drop (i'+1)).map (qfj v)) (qan v ((l.set i' (qon s (yrS v s).1)).drop (i'+1)))).satP Q;have e3:(l.set i' (qon s (yrS v s).1)).drop (i'+1)=l.drop (i'+1):=List.drop_set_of_lt (by omega);have e4:(l.set i' (qon s (yrS v s).1)).take (i'+1)=l.take i'++[qon s (yrS v s).1]:=by
    rw [List.take_add_one,List.take_set_of_le (by omega)];simp [hlt]
   rw [e3,e4,ubf];exact hq
 ·have hge:¬ i'<l.length:=by have:¬ (i':Int)<(l.length:Int):=uac hi; omega
  rw [uc5 (by omega),udc (by omega)] at hq;have hq':=hq.2 rfl;simp only [ugg,ud1] at hq';exact hq'
theorem yrc:qf Tryz.prog (.loop (qo Tryz.f46 0)) MO ptO FO:=by
 refine qf.loop (n:=56) (id:=0) ys5 (inv:=fun x=>InvO x.1.1 x.1.2.1 x.2.1) (μ:=fun x=>((x.1.1:Int)-x.1.2.1).toNat) ?_ (fun x Q h=>h.1);rintro ⟨⟨n,i,_⟩,l,v,_⟩ hinv Q hq;exact ysx n i l v hinv Q hq.2
def zhd (v:qw.den) (l:List ql.den):Fr (qi [qag,i64]):=
 Fr.need (InvO l.length 0 l) (Fr.br (qan v (l.drop (0:Int).toNat) != 0) (Fr.val ([],qan v (l.drop (0:Int).toNat),())) (Fr.val (l.take (0:Int).toNat++(l.drop (0:Int).toNat).map (qfj v),0,())))
def goH (h:qm.den):ql.den×List ql.den:=qk3 (((wb h).drop (0:Int).toNat).map (vt h)) ((h.2.2.1.1.1,0,()),true,h.2.2.1.2.1,[]++h.2.2.1.2.2.1,0,()) []
def zao (x:qn [.d qm,.d ze]):Fr (qi [qag,i64]):=
 Fr.br (!(zrl.f (x.1,())).1) (Fr.val ([],1,()))
  (Fr.need (wn x.2.1)
   (Fr.br ((quf.f (x.2.1,x.1.2.2.1.1.1,())).2.1 != 0) (Fr.val ([],(quf.f (x.2.1,x.1.2.2.1.1.1,())).2.1,()))
    (Fr.need (([]:List qc.den).length+x.1.2.2.1.2.2.1.length<=maxLen/\(([]:List qc.den).length+x.1.2.2.1.2.2.1.length)*40<=140737488355328)
     (Fr.need (((chL x.1).length:Int)<=1000000)
      (Fr.need (InvC5 (wb x.1) ((wb x.1).length:Int) 0 x.1 [])
       (ybz (goH x.1).1 (goH x.1).2 x.1.2.2.1.1.2.1 (zhd (quf.f (x.2.1,x.1.2.2.1.1.1,())).1)))))))
theorem of_run:qa Tryz.prog 46 ⟨[.d qm,.d ze],[qag,i64],fun xs=>(zao xs).get,fun xs=>[(zao xs).ok]⟩:=
 qg zh1 (Λ:=fun _=>ptO.han COf.Γ MO FO) (fn:=Tryz.f46) (fr:=zao) (ps:=[.d qm,.d ze]) (rs:=[qag,i64]) (qm.dflt,ze.dflt,()) (by kernel_rfl)
  (fun c E hc=>jb hc (by kernel_rfl) (b:=qo Tryz.f46 0) (by kernel_rfl) (qf.han zh1 rfl yrc)) (fun x=>by kernel_rfl)
def jj (h:qm.den):Prop:=(chL h).length<=500000/\h.2.2.1.2.2.1.length<=1000000/\∀ c∈chL h,c.2.2.2.2.1.length<=1000000
def ofF (h:qm.den) (t:ze.den):List ql.den×Int:=
 if qsr h=true then
  (if (yo h.2.2.1.1.1 t.1.reverse).2=0 then
   (if qan (yo h.2.2.1.1.1 t.1.reverse).1 (qd2 h)=0 then ((qd2 h).map (qfj (yo h.2.2.1.1.1 t.1.reverse).1),0) else ([],qan (yo h.2.2.1.1.1 t.1.reverse).1 (qd2 h)))
  else ([],(yo h.2.2.1.1.1 t.1.reverse).2))
 else ([],1)
def cOf:Ct:=⟨[.d qm,.d ze],[qag,i64],fun x=>((ofF x.1 x.2.1).1,(ofF x.1 x.2.1).2,()),fun x=>[jj x.1,wn x.2.1]⟩
theorem qml (h:qm.den):(wb h).length=(chL h).length:=by
 unfold wb;rw [qaq,qmq]
theorem qs3 {h:qm.den} {x:Int} (hx:x∈wb h):0<=x/\x<((chL h).length:Int):=qte (qpw.1 hx)
theorem qu7:(l:List qd.den)->(s:ql.den)->(out:List ql.den)->(qk3 l s out).2.length<=out.length+l.length
 |[],_,_=>ua3 _
 |c::l,s,out=>by
  have h1:=qu7 l (zhb ((c.2.1,s.1.2.1,()),s.2) c) (qsh s out c.2.1);have h2:=qqd s out c.2.1;simp only [qk3,uaf];omega
theorem ztw:qa Tryz.prog 46 cOf:=
 wa of_run _ _ (fun w F x vs hr hok=>by
  obtain ⟨h,t,_⟩:=x;obtain ⟨⟨f1,f2,f3⟩,f4⟩:jj h/\wn t:=hok;show (zao (h,t,())).ok/\(zao (h,t,())).get=((ofF h t).1,(ofF h t).2,());unfold ofF;cases hh:qsr h with
  |false=>
   refine Fr.br_t ?_ ⟨trivial,rfl⟩;show (!(qsr h))=true;rw [hh];rfl
  |true=>
   rw [if_pos rfl];refine Fr.br_f ?_ (Fr.need_ f4 ?_)
   ·show (!(qsr h))=false;rw [hh];rfl
   ·by_cases hv:(yo h.2.2.1.1.1 t.1.reverse).2=0
    ·rw [if_pos hv];refine Fr.br_f ?_ (Fr.need_ ?_ (Fr.need_ ?_ (Fr.need_ ?_ ?_)))
     ·show ((yo h.2.2.1.1.1 t.1.reverse).2 != 0)=false;rw [hv];rfl
     ·show ([]:List qc.den).length+h.2.2.1.2.2.1.length<=maxLen/\(([]:List qc.den).length+h.2.2.1.2.2.1.length)*40<=140737488355328;simp only [List.length_nil,Nat.zero_add];exact ⟨by unfold maxLen; omega,by omega⟩
     ·show ((chL h).length:Int)<=1000000;omega
     ·show InvC5 (wb h) ((wb h).length:Int) 0 h [];exact ⟨ua4 _,uak _,rfl,by rw [qml]; exact f1,fun x hx=>qs3 hx,f3,ua4 _⟩
     ·have hgo:(goH h).2.length<=500000:=by
       have:=qu7 (((wb h).drop (0:Int).toNat).map (vt h)) ((h.2.2.1.1.1,0,()),true,h.2.2.1.2.1,[]++h.2.2.1.2.2.1,0,()) [];have e:(((wb h).drop (0:Int).toNat).map (vt h)).length=(chL h).length:=by
        rw [ude];exact qml h
       rw [e] at this;have h2:(goH h).2.length<=0+(chL h).length:=this;omega
      have hcut:qsh (goH h).1 (goH h).2 h.2.2.1.1.2.1=qd2 h:=rfl;have hclen:(qd2 h).length<=1000000:=by
       rw [← hcut];have:=qqd (goH h).1 (goH h).2 h.2.2.1.1.2.1;omega
      have hkey:(zhd (yo h.2.2.1.1.1 t.1.reverse).1 (qd2 h)).ok/\(zhd (yo h.2.2.1.1.1 t.1.reverse).1 (qd2 h)).get=((if qan (yo h.2.2.1.1.1 t.1.reverse).1 (qd2 h)=0 then ((qd2 h).map (qfj (yo h.2.2.1.1.1 t.1.reverse).1),(0:Int)) else ([],qan (yo h.2.2.1.1.1 t.1.reverse).1 (qd2 h))).1,(if qan (yo h.2.2.1.1.1 t.1.reverse).1 (qd2 h)=0 then ((qd2 h).map (qfj (yo h.2.2.1.1.1 t.1.reverse).1),(0:Int)) else ([],qan (yo h.2.2.1.1.1 t.1.reverse).1 (qd2 h))).2,()):=by
       refine Fr.need_ ⟨ua4 _,uak _,rfl,hclen⟩ ?_;by_cases he:qan (yo h.2.2.1.1.1 t.1.reverse).1 (qd2 h)=0
       ·rw [if_pos he];refine Fr.br_f ?_ ⟨trivial,rfl⟩;show (qan (yo h.2.2.1.1.1 t.1.reverse).1 (qd2 h) != 0)=false;rw [he];rfl
       ·rw [if_neg he];exact Fr.br_t (udu.2 he) ⟨trivial,rfl⟩
      have hs:=zji (s:=(goH h).1) (out:=(goH h).2) (day:=h.2.2.1.1.2.1) (K:=zhd (yo h.2.2.1.1.1 t.1.reverse).1) (Q:=fun y=>y=((if qan (yo h.2.2.1.1.1 t.1.reverse).1 (qd2 h)=0 then ((qd2 h).map (qfj (yo h.2.2.1.1.1 t.1.reverse).1),(0:Int)) else ([],qan (yo h.2.2.1.1.1 t.1.reverse).1 (qd2 h))).1,(if qan (yo h.2.2.1.1.1 t.1.reverse).1 (qd2 h)=0 then ((qd2 h).map (qfj (yo h.2.2.1.1.1 t.1.reverse).1),(0:Int)) else ([],qan (yo h.2.2.1.1.1 t.1.reverse).1 (qd2 h))).2,())) (by omega) (by
       rw [hcut];exact Fr.satP_of hkey.1 hkey.2)
      exact Fr.satP_get hs
    ·rw [if_neg hv];refine Fr.br_t ?_ ⟨trivial,rfl⟩;show ((yo h.2.2.1.1.1 t.1.reverse).2 != 0)=true;exact udu.2 hv)
abbrev jx:Ty:=.pair i64 (.pair i64 (.pair i64 (.pair i64 (.pair i64 (.pair i64 .unit)))))
def zir:Ct:=⟨[.d i64],[.bool],fun x=>(decide (1<=x.1/\x.1<=1000000000),()),fun _=>[]⟩
def zg2:Ct:=⟨[.d i64],[.bool],fun x=>(decide (1<=x.1/\x.1<=292194),()),fun _=>[]⟩
theorem zd0 (n a b:Int):(bif decide (n≥a) then decide (n<=b) else false)=decide (a<=n/\n<=b):=by
 rw [uau];simp
theorem yn1:qa Tryz.prog 90 zir:=
 flat (ps:=[.d i64]) (rs:=[.bool]) (zc (cs:=[]) (ps:=[]) qv trivial trivial) (fn:=Tryz.f90) (fr:=fun x=>Fr.val (bif decide (x.1≥1) then decide (x.1<=1000000000) else false,())) (0,()) (by kernel_rfl) (fun x=>by kernel_rfl) _ _
  (fun _ _ x _ _ _=>⟨trivial,ucd (zd0 x.1 1 1000000000) rfl⟩)
theorem yig:qa Tryz.prog 91 zg2:=
 flat (ps:=[.d i64]) (rs:=[.bool]) (zc (cs:=[]) (ps:=[]) qv trivial trivial) (fn:=Tryz.f91) (fr:=fun x=>Fr.val (bif decide (x.1≥1) then decide (x.1<=292194) else false,())) (0,()) (by kernel_rfl) (fun x=>by kernel_rfl) _ _
  (fun _ _ x _ _ _=>⟨trivial,ucd (zd0 x.1 1 292194) rfl⟩)
def qz2 (i p k l b e:Int):Bool:=decide (1<=i/\i<=1000000000)&&(decide (1<=p/\p<=1000000000)&&(decide (0<=e/\e<=1000000000)&&(decide (0<=k/\k<=7)&&(decide (1<=l/\l<=292194)&&decide (1<=b/\b<=292194)))))
def zij:Ct:=⟨[.d jx],[.bool],fun x=>(qz2 x.1.1 x.1.2.1 x.1.2.2.1 x.1.2.2.2.1 x.1.2.2.2.2.1 x.1.2.2.2.2.2.1,()),fun _=>[]⟩
def ym1:Ct:=⟨[.d i64,.d i64,.d i64],[.bool],fun x=>(decide (x.2.1<=x.1/\x.1<=x.2.2.1),()),fun _=>[]⟩
theorem yn3:qa Tryz.prog 199 ym1:=
 flat (ps:=[.d i64,.d i64,.d i64]) (rs:=[.bool]) (zc (cs:=[]) (ps:=[]) qv trivial trivial) (fn:=Tryz.f199) (fr:=fun x=>Fr.val (bif decide (x.1≥x.2.1) then decide (x.1<=x.2.2.1) else false,())) (0,0,0,()) (by kernel_rfl) (fun x=>by kernel_rfl) _ _
  (fun _ _ x _ _ _=>⟨trivial,ucd (zd0 x.1 x.2.1 x.2.2.1) rfl⟩)
noncomputable def CK1:Cx:=cx [(90,zir),(91,zg2),(199,ym1)] []
theorem ylw:CxOK Tryz.prog CK1:=zc qv ⟨yn1,yig,yn3,trivial⟩ trivial
def ysr (x:qn [.d jx]):Fr (qi [.bool]):=
 let c:jx.den:=x.1
 Fr.val (bif bif bif bif bif bif (zir.f (c.1,())).1 then (zir.f (c.2.1,())).1 else false then (bif c.2.2.2.2.2.1==0 then true else (zir.f (c.2.2.2.2.2.1,())).1) else false then decide (c.2.2.1≥0) else false then decide (c.2.2.1<=7) else false then (zg2.f (c.2.2.2.1,())).1 else false then (zg2.f (c.2.2.2.2.1,())).1 else false,())
theorem yri (i p k l b e:Int):(bif bif bif bif bif bif decide (1<=i/\i<=1000000000) then decide (1<=p/\p<=1000000000) else false then (bif e==0 then true else decide (1<=e/\e<=1000000000)) else false then decide (k≥0) else false then decide (k<=7) else false then decide (1<=l/\l<=292194) else false then decide (1<=b/\b<=292194) else false)=qz2 i p k l b e:=by
 have e1:(bif e==0 then true else decide (1<=e/\e<=1000000000))=decide (0<=e/\e<=1000000000):=by
  rw [uau];simp;omega
 have e2:decide (0<=k/\k<=7)=(decide (k≥0)&&decide (k<=7)):=by
  rw [uau];simp
 unfold qz2;rw [e1,e2];cases decide (1<=i/\i<=1000000000)<;>cases decide (1<=p/\p<=1000000000)<;>cases decide (0<=e/\e<=1000000000)<;>cases decide (k≥0)<;>cases decide (k<=7)<;>cases decide (1<=l/\l<=292194)<;>rfl
theorem zx8:qa Tryz.prog 55 zij:=
 flat (ps:=[.d jx]) (rs:=[.bool]) ylw (fn:=Tryz.f55) (fr:=ysr) (jx.dflt,()) (by kernel_rfl) (fun x=>by kernel_rfl) _ _
  (fun _ _ x _ _ _=>by
   obtain ⟨⟨i,p,k,l,b,e,_⟩,_⟩:=x;exact ⟨trivial,ucd (yri i p k l b e) rfl⟩)
abbrev zh:Ty:=.pair i64 (.pair i64 (.pair i64 .unit))
abbrev qb:Ty:=.pair i64 (.pair i64 (.pair zy (.pair i64 (.pair i64 (.pair i64 (.pair i64 (.pair i64 .unit)))))))
abbrev factT:Ty:=.pair i64 (.pair i64 (.pair i64 (.pair i64 (.pair i64 (.pair zo (.pair qd (.pair jx (.pair zh (.pair qb .unit)))))))))
abbrev zf:Ty:=.pair qm (.pair i64 .unit)
abbrev qt:Ty:=.pair jx (.pair (.sl zh) .unit)
abbrev stateT:Ty:=.pair ze (.pair (.sl zf) (.pair (.sl qt) (.pair (.sl qb) (.pair i64 .unit))))
def qdw {α:Type} (g:α->Bool):List α->Int->Option Int
 |[],_=>none
 |x::r,i=>if g x=true then some i else qdw g r (i+1)
abbrev fnT (T:Ty):PT:=.fn [T] [.bool]
def MIt (T:Ty):LS:=⟨[(0,.d (.sl T)),(1,fnT T),(7,.d i64),(8,.d i64)],[]⟩
def qtb (T:Ty):Pt:=⟨19,0,MIt T,⟨[],[]⟩,⟨[(4,.d i64)],[]⟩⟩
def fIt (T:Ty) (x:(MIt T).X):Fr (qtb T).Out:=
 match x with
 |((l,g,n,i,_),_)=>Fr.br (decide (i<n))
  (Fr.need (0<=i/\i<l.length)
   (Fr.br (g (l.getD i.toNat T.dflt,())).1 (Fr.val (Rd.back ((i,()),())))
    (Fr.val (Rd.next ((l,g,n,IntKind.i64.wrap (i+1),()),())))))
  (Fr.val (Rd.out ((),())))
def qyb {α:Type} (l:List α) (n i:Int):Prop:=0<=i/\i<=n/\n=l.length/\n<=9223372036854775807
def FIt (T:Ty) (x:(MIt T).X):Fr (qtb T).Out:=
 Fr.need (qyb x.1.1 x.1.2.2.1 x.1.2.2.2.1) (Fr.br (qdw (fun n=>(x.1.2.1 (n,())).1) (x.1.1.drop x.1.2.2.2.1.toNat) x.1.2.2.2.1).isSome
   (Fr.val (.back (((qdw (fun n=>(x.1.2.1 (n,())).1) (x.1.1.drop x.1.2.2.2.1.toNat) x.1.2.2.2.1).getD (-1),()),()))) (Fr.val (.out ((),()))))
theorem yq2 (T:Ty) (l:List T.den) (g:qi [T]->qi [.bool]) (n i:Int) (hinv:qyb l n i) (Q:(qtb T).Out->Prop) (hq:(Fr.br (qdw (fun n=>(g (n,())).1) (l.drop i.toNat) i).isSome (Fr.val (Rd.back (((qdw (fun n=>(g (n,())).1) (l.drop i.toNat) i).getD (-1),()),()))) (Fr.val (Rd.out ((),())))  : Fr (qtb T).Out).satP Q) :
  (fIt T ((l,g,n,i,()),())).satP fun
   |.next x'=>qyb x'.1.1 x'.1.2.2.1 x'.1.2.2.2.1/\(x'.1.2.2.1-x'.1.2.2.2.1).toNat<(n-i).toNat/\(FIt T x').satP Q
   |.out y=>Q (.out y)
   |.back z=>Q (.back z)
   |.pan p=>Q (.pan p):=by
 obtain ⟨h1,h2,h3,h4⟩:=hinv;subst h3;refine ⟨fun hi=>?_,fun hi=>?_⟩
 ·have hi':i<(l.length:Int):=ua5 hi;obtain ⟨k,rfl⟩:∃ k:Nat,i=k:=⟨i.toNat,by omega⟩;have hl:k<l.length:=by omega
  have g1:l.getD (k:Int).toNat T.dflt=l[k]:=by
   rw [show (k:Int).toNat=k by omega,ua6,ua7 hl]; rfl
  have hw:IntKind.i64.wrap ((k:Int)+1)=k+1:=uag _ (by omega);have hd:l.drop (k:Int).toNat=l[k]::l.drop (k+1):=by
   rw [show (k:Int).toNat=k by omega];exact (ubp hl)
  rw [hd] at hq;dsimp only [fIt,Fr.satP];rw [g1,hw];refine ⟨⟨by omega,by omega⟩,fun hb=>?_,fun hb=>?_⟩
  ·have:qdw (fun n=>(g (n,())).1) (l[k]::l.drop (k+1)) k=some (k:Int):=if_pos hb;rw [this] at hq;exact hq.1 rfl
  ·have hb':¬ (g (l[k],())).1=true:=by rw [hb]; decide
   have:qdw (fun n=>(g (n,())).1) (l[k]::l.drop (k+1)) k=qdw (fun n=>(g (n,())).1) (l.drop (k+1)) (k+1):=if_neg hb';rw [this] at hq;have hI:qyb l l.length ((k:Int)+1):=⟨by omega,by omega,rfl,h4⟩;refine ⟨hI,by omega,hI,?_⟩;rw [show ((k:Int)+1).toNat=k+1 by omega];exact hq
 ·have hi':¬ i<(l.length:Int):=uac hi;have e:l.drop i.toNat=[]:=uc5 (by omega);rw [e] at hq;exact hq.2 rfl
theorem zld {p:Program} {b:Code} (T:Ty) (sem:qf p b (MIt T) (qtb T) (fIt T)):qf p (.loop b) (MIt T) (qtb T) (FIt T):=by
 refine qf.loop (n:=19) (id:=0) sem (inv:=fun x=>qyb x.1.1 x.1.2.2.1 x.1.2.2.2.1) (μ:=fun x=>(x.1.2.2.1-x.1.2.2.2.1).toNat) ?_ (fun x Q h=>h.1);rintro ⟨⟨l,g,n,i,_⟩,_⟩ hinv Q hq;exact yq2 T l g n i hinv Q hq.2
def qki {α:Type} (g:α->Bool) (l:List α):Int:=(qdw g l 0).getD (-1)
def qdg (T:Ty):Ct:=⟨[.d (.sl T),fnT T],[i64],fun x=>(qki (fun n=>(x.2.1 (n,())).1) x.1,()),fun _=>[]⟩
def zke (T:Ty) (x:qn [.d (.sl T),fnT T]):Fr (qi [i64]):=Fr.need (qyb x.1 x.1.length 0) (Fr.br (qdw (fun n=>(x.2.1 (n,())).1) x.1 0).isSome (Fr.val ((qdw (fun n=>(x.2.1 (n,())).1) x.1 0).getD (-1),())) (Fr.val (-1,())))
theorem itC {p:Program} {f:FuncId} {T:Ty} (h:qa p f ⟨[.d (.sl T),fnT T],[i64],fun x=>(zke T x).get,fun x=>[(zke T x).ok]⟩):qa p f (qdg T):=
 conv h _ _ (fun w F x vs hr _=>by
  obtain ⟨l,g,_⟩:=x;obtain ⟨v,vs',rfl,hv,_⟩:=hr;have hlen:(l.length:Int)<=9223372036854775807:=qcn hv;have hI:qyb l l.length 0:=⟨by omega,by omega,rfl,hlen⟩;refine Fr.need_ hI ?_;cases hf:qdw (fun n=>(g (n,())).1) l 0 with
  |some k=>exact Fr.br_t rfl ⟨trivial,by show (k,())=_; unfold qki; rw [hf]; rfl⟩
  |none=>exact Fr.br_f rfl ⟨trivial,by show ((-1:Int),())=_; unfold qki; rw [hf]; rfl⟩)
theorem zj8 {α:Type} (g:α->Bool):(l:List α)->(i:Int)->0<=i->decide ((qdw g l i).getD (-1)≥0)=l.any g
 |[],_,_=>rfl
 |x::r,i,h=>by
  unfold qdw;simp only [List.any_cons];split
  ·rename_i hx;rw [hx];simp [h]
  ·rename_i hx;rw [zj8 g r (i+1) (by omega)];simp [hx]
theorem zk2 {α:Type} (g:α->Bool) (l:List α):decide (0<=qki g l)=l.any g:=zj8 g l 0 (by omega)
theorem zj7 {α:Type} (g:α->Bool):(l:List α)->(i k:Int)->qdw g l i=some k->i<=k/\k<i+l.length/\∃ x,l[(k-i).toNat]? = some x/\g x=true
 |[],_,_,h=>nomatch h
 |x::r,i,k,h=>by
  unfold qdw at h;split at h
  ·rename_i hx;cases h;exact ⟨by omega,by simp only [uaf]; omega,x,by rw [show (i-i).toNat=0 by omega]; rfl,hx⟩
  ·obtain ⟨h1,h2,y,h3,h4⟩:=zj7 g r (i+1) k h;refine ⟨by omega,by simp only [uaf]; omega,y,?_,h4⟩;rw [show (k-i).toNat=(k-(i+1)).toNat+1 by omega];exact h3
theorem qrk {α:Type} {g:α->Bool} {l:List α} (h:0<=qki g l):qki g l<l.length/\∃ x,l[(qki g l).toNat]? = some x/\g x=true:=by
 unfold qki at h ⊢;cases hf:qdw g l 0 with
 |none=>rw [hf] at h; exact absurd h (by decide)
 |some k=>
  obtain ⟨h1,h2,x,h3,h4⟩:=zj7 g l 0 k hf;rw [ucv];exact ⟨by omega,x,by simpa using h3,h4⟩
theorem ytm {α:Type} {g:α->Bool} {l:List α} (h:qki g l<0):∀ x∈l,g x=false:=by
 have h1:=zk2 g l;rw [uao (by omega)] at h1;intro x hx;cases hg:g x with
 |false=>rfl
 |true=>
  have:l.any g=true:=List.any_eq_true.mpr ⟨x,hx,hg⟩;rw [← h1] at this;exact absurd this (by decide)
def qr3 (T:Ty):Ct:=⟨[.d (.sl T),fnT T],[.bool],fun x=>(x.1.any (fun n=>(x.2.1 (n,())).1),()),fun _=>[]⟩
noncomputable def CS5:Cx:=cx [] []
theorem qi4:CxOK Tryz.prog CS5:=zc (cs:=[]) (ps:=[]) qv trivial trivial
theorem zpt:qa Tryz.prog 80 (qdg zf):=
 itC (qg qi4 (Λ:=fun _=>(qtb zf).han CS5.Γ (MIt zf) (FIt zf)) (fn:=Tryz.f80) (ps:=[.d (.sl zf),fnT zf]) (rs:=[i64]) (fr:=zke zf) ([],fun _=>(false,()),()) (by kernel_rfl)
  (fun c E hc=>jb hc (by kernel_rfl) (b:=qo Tryz.f80 0) (by kernel_rfl) (qf.han qi4 rfl (zld zf (qf.of_run qi4 (bs:=0) rfl rfl rfl (fun _=>qe _ 0) (fun x=>by kernel_rfl))))) (fun x=>by kernel_rfl))
theorem zdb:qa Tryz.prog 93 (qdg qt):=
 itC (qg qi4 (Λ:=fun _=>(qtb qt).han CS5.Γ (MIt qt) (FIt qt)) (fn:=Tryz.f93) (ps:=[.d (.sl qt),fnT qt]) (rs:=[i64]) (fr:=zke qt) ([],fun _=>(false,()),()) (by kernel_rfl)
  (fun c E hc=>jb hc (by kernel_rfl) (b:=qo Tryz.f93 0) (by kernel_rfl) (qf.han qi4 rfl (zld qt (qf.of_run qi4 (bs:=0) rfl rfl rfl (fun _=>qe _ 0) (fun x=>by kernel_rfl))))) (fun x=>by kernel_rfl))
theorem zpu:qa Tryz.prog 301 (qdg qb):=
 itC (qg qi4 (Λ:=fun _=>(qtb qb).han CS5.Γ (MIt qb) (FIt qb)) (fn:=Tryz.f301) (ps:=[.d (.sl qb),fnT qb]) (rs:=[i64]) (fr:=zke qb) ([],fun _=>(false,()),()) (by kernel_rfl)
  (fun c E hc=>jb hc (by kernel_rfl) (b:=qo Tryz.f301 0) (by kernel_rfl) (qf.han qi4 rfl (zld qb (qf.of_run qi4 (bs:=0) rfl rfl rfl (fun _=>qe _ 0) (fun x=>by kernel_rfl))))) (fun x=>by kernel_rfl))
noncomputable def ysh:Cx:=cx [(93,qdg qt)] []
theorem yho:CxOK Tryz.prog ysh:=zc (cs:=[(93,qdg qt)]) (ps:=[]) qv ⟨zdb,trivial⟩ trivial
theorem yhx:qa Tryz.prog 268 (qr3 qt):=
 conv (qg yho (Λ:=qq) (fn:=Tryz.f268) (fr:=fun x=>Fr.val (decide (qki (fun n=>(x.2.1 (n,())).1) x.1≥0),())) (ps:=[.d (.sl qt),fnT qt]) (rs:=[.bool]) ([],fun _=>(false,()),()) (by kernel_rfl) (fun c E _=>qe c 0) (fun x=>by kernel_rfl)) _ _
  (fun _ _ x _ _ _=>⟨trivial,ucd (zk2 _ x.1) rfl⟩)
noncomputable def ysi:Cx:=cx [(301,qdg qb)] []
theorem yhp:CxOK Tryz.prog ysi:=zc (cs:=[(301,qdg qb)]) (ps:=[]) qv ⟨zpu,trivial⟩ trivial
theorem zo6:qa Tryz.prog 297 (qr3 qb):=
 conv (qg yhp (Λ:=qq) (fn:=Tryz.f297) (fr:=fun x=>Fr.val (decide (qki (fun n=>(x.2.1 (n,())).1) x.1≥0),())) (ps:=[.d (.sl qb),fnT qb]) (rs:=[.bool]) ([],fun _=>(false,()),()) (by kernel_rfl) (fun c E _=>qe c 0) (fun x=>by kernel_rfl)) _ _
  (fun _ _ x _ _ _=>⟨trivial,ucd (zk2 _ x.1) rfl⟩)
end Go.Proofs.YtgieagiaagoogaaGreat
namespace Go.Ab
open Go Go.RowKit
def yo0 (pc:Pc):Ct:=⟨pc.ps,pc.rs,pc.f,fun x=>(pc.bad x=false)::pc.ok x⟩
def gP (C:Cx) (f:FuncId):Option Ct:=match C.Γ f with
 |some ct=>some ct
 |none=>(C.Pi f).map yo0
structure Pan where
 bad:Bool
 pv:PV
 good:List Prop
def qh3 (C:Cx) (o:Oper) (sl:Nat->AV):Option Pan:=
 match o.guard,o.op,o.op.operands.toList.map (evA sl) with
 |none,.call ⟨.value _,_,_⟩,.c (.fn f caps)::args=>match C.Pi f with
  |some pc=>match qcj (fun _=>none) (args++caps.map .c) with
   |some (xs,[])=>match qjd C.Γ pc.ps xs with
    |some (x,n)=>some ⟨pc.bad x,pc.pv x,n++pc.ok x⟩
    |none=>none
   |_=>none
  |none=>none
 |_,_,_=>none
def qgp (P:Program) (C:Cx) (b:Nat) (ops:List Oper):List Oper->St->Option (List (Ef×Option Pan)×St)
 |[],s=>some ([],s)
 |o::r,s=>match qal P (gP C) b ops o s.sl s.mem with
  |some e=>match qgp P C b ops r (e.go s) with
   |some (es,s')=>some ((e,qh3 C o s.sl)::es,s')
   |none=>none
  |none=>none
def zte (pv:PV):Ef×Option Pan->List Prop
 |(e,none)=>e.need
 |(e,some p)=>[p.bad=false->qr e.need,p.bad=true->qr p.good/\p.pv=pv]
def zvb (d:St) (all:List (Ef×Option Pan)) (good:Tr):List Pan->Tr
 |[]=>good
 |p::r=>.br p.bad (needL (all.flatMap (zte p.pv)) (.leaf (.panic p.pv) d)) (zvb d all good r)
def zvi (ops:List Oper) (es:List (Ef×Option Pan)):Bool:=
 let ms:=xi [] ops
 (List.range es.length).all fun k=>match es[k]?,ms[k]? with
  |some (f,_),some mask=>f.wr.isEmpty || (List.range es.length).all fun i=>match es[i]? with
   |some (_,some _)=>mask.testBit i
   |_=>true
  |_,_=>false
def qrd (ops:List Oper) (es:List (Ef×Option Pan)):List Tmp:=
 let ms:=xi [] ops
 (List.range es.length).filterMap fun k=>match es[k]?,ms[k]? with
  |some (f,_),some mask=>if (List.range es.length).all (fun i=>match es[i]? with
   |some (_,some _)=>mask.testBit i
   |_=>true) then none else f.dst
  |_,_=>none
def za1 (D:List Tmp) (sl:Nat->AV) (t:Tmp):AV:=if D.contains t then .dead else clr sl t
def zdq (P:Program) (C:Cx) (b:Nat) (ops:List Oper) (s:St):Option Tr:=
 if qma s.n 0 [] ops then match qgp P C b ops ops s with
  |some (es,s')=>if qkp ops (es.map (·.1))=true/\zvi ops es=true then
    some (zvb ⟨s.n,za1 (qrd ops es) s.sl,s.mem,s.gs⟩ es (zhl (es.map (·.1)) (.leaf .normal (qid s'))) (es.filterMap (·.2)))
   else none
  |none=>none
 else none
section
variable {P:Program} {w w':World} {E:Env} {F F':Nat->Prop} {b:Nat} {γ γ' γ0:Nat->Value} {ops:Array Oper} {es:List (Ef×Option Pan)} {C:Cx}
theorem yqv (hC:CxOK P C):∀ f ct,gP C f=some ct->qa P f ct:=by
 intro f ct h;unfold gP at h;split at h
 ·rename_i ct' hct;cases h;exact hC.ct.1 f _ hct
 ·cases hp:C.Pi f with
  |none=>rw [hp] at h; cases h
  |some pc=>
   rw [hp] at h;cases h;obtain ⟨h1,h2⟩:=hC.pc f pc hp;refine ⟨h1,fun w F xs vs hb hr hok=>?_⟩;obtain ⟨hbad,hok⟩:pc.bad xs=false/\qr (pc.ok xs):=xz.1 hok;refine (h2 w F xs vs hb hr hok).mono fun e w' h=>?_;rcases h with h|h
   ·exact h.2
   ·rw [hbad] at h;cases h.1
theorem zol {o:Oper} {sl sl':Nat->AV} (h:∀ t∈qrv o.op,sl' t=sl t):qh3 C o sl'=qh3 C o sl:=by
 unfold qh3;rw [zeh h]
theorem qx2 {o:Oper} {sl:Nat->AV} (h:o.guard≠none):qh3 C o sl=none:=by
 unfold qh3;split
 ·rename_i hg _ _;exact absurd hg h
 ·rfl
theorem ynr {Γ:Gm} {o:Oper} {opl:List Oper} {sl:Nat->AV} {m:Mem} {e:Ef} (he:qal P Γ b opl o sl m=some e) (hg:o.guard=none):e.rd=qrv o.op:=by
 unfold qal at he;rw [hg] at he;simp only at he;split at he<;>try trivial
 cases he;rfl
theorem zlv {Γ:Gm} {o:Oper} {opl:List Oper} {e f:Ef} {s:St} (hf:qal P Γ b opl o s.sl s.mem=some f) (hd:∀ t,e.dst=some t->t ∉ f.rd):qh3 C o (e.go s).sl=qh3 C o s.sl:=by
 cases hg:o.guard with
 |some g=>rw [qx2 (by rw [hg]; simp),qx2 (by rw [hg]; simp)]
 |none=>
  refine zol fun t ht=>?_;show qdj s.sl e.dst e.v t=s.sl t;rw [← ynr hf hg] at ht;cases hx:e.dst with
  |none=>rfl
  |some x=>
   have hne:t≠x:=fun htx=>hd x hx (htx ▸ ht);exact if_neg hne
def qwk (P:Program) (C:Cx) (b:Nat) (ops:Array Oper) (es:List (Ef×Option Pan)) (s':St):List Nat->St->Prop
 |[],s=>s=s'
 |i::r,s=>∃ o e p,ops[i]? = some o/\es[i]? = some (e,p)/\qal P (gP C) b ops.toList o s.sl s.mem=some e/\qh3 C o s.sl=p/\qwk P C b ops es s' r (e.go s)
theorem zmf {s':St}:(l:List Oper)->(k:Nat)->(s:St)->(fs:List (Ef×Option Pan))->qgp P C b ops.toList l s=some (fs,s')->(∀ i o,l[i]? = some o->ops[k+i]? = some o) ->
  (∀ i e,fs[i]? = some e->es[k+i]? = some e)->qwk P C b ops es s' (List.range' k l.length) s
 |[],k,s,fs,h,_,_=>by
  simp only [qgp,ua0,ua9] at h;exact h.2
 |o::r,k,s,fs,h,ho,he=>by
  simp only [qgp] at h;split at h<;>try trivial
  rename_i e heff;split at h<;>try trivial
  rename_i es' s2 hr;cases h;refine ⟨o,e,_,by simpa using ho 0 o rfl,by simpa using he 0 _ rfl,heff,rfl,?_⟩;refine zmf r (k+1) _ es' hr (fun i o' hi=>?_) (fun i e' hi=>?_)
  ·have:=ho (i+1) o' (by simpa using hi)
   rwa [show k+1+i=k+(i+1) by omega]
  ·have:=he (i+1) e' (by simpa using hi)
   rwa [show k+1+i=k+(i+1) by omega]
theorem zmd {opl:List Oper}:(l:List Oper)->(s:St)->(fs:List (Ef×Option Pan))->(s':St)->qgp P C b opl l s=some (fs,s')->s'.n=s.n
 |[],s,fs,s',h=>by
  simp only [qgp,ua0,ua9] at h;rw [h.2]
 |o::r,s,fs,s',h=>by
  simp only [qgp] at h;split at h<;>try trivial
  split at h<;>try trivial
  rename_i es' s2 hr;cases h;exact (zmd r _ es' _ hr).trans rfl
theorem qt1 {opl:List Oper}:(l:List Oper)->(s:St)->(fs:List (Ef×Option Pan))->(s':St)->qgp P C b opl l s=some (fs,s')->fs.length=l.length
 |[],s,fs,s',h=>by
  simp only [qgp,ua0,ua9] at h;rw [← h.1];rfl
 |o::r,s,fs,s',h=>by
  simp only [qgp] at h;split at h<;>try trivial
  split at h<;>try trivial
  rename_i es' s2 hr;cases h;simp [qt1 r _ es' _ hr]
theorem zxk {s':St} {j:Nat}:(rem:List Nat)->(s:St)->qwk P C b ops es s' rem s->rem.Pairwise (· < ·)->j∈rem ->
  (∀ i∈rem,i<j->∀ e f,es[i]? = some e->es[j]? = some f->qg6 e.1 f.1=true) ->
  ∃ o f p,ops[j]? = some o/\es[j]? = some (f,p)/\qal P (gP C) b ops.toList o s.sl s.mem=some f/\qh3 C o s.sl=p/\qwk P C b ops es s' (rem.erase j) (f.go s)
 |[],_,_,_,hj,_=>by simp at hj
 |i::r,s,hr,hp,hj,hi=>by
  obtain ⟨o,e,p,ho,he,heff,hpan,hr'⟩:=hr;by_cases hij:i=j
  ·subst hij;refine ⟨o,e,p,ho,he,heff,hpan,?_⟩;rw [ufz];exact hr'
  ·have hjr:j∈r:=by
    rcases ua2.1 hj with h|h
    ·exact absurd h.symm hij
    ·exact h
   have hlt:i<j:=(ub2.1 hp).1 j hjr;obtain ⟨oj,f,pj,hoj,hfj,hf,hpj,hrr⟩:=zxk r (e.go s) hr' (ub2.1 hp).2 hjr (fun k hk hkj=>hi k (ua8 _ hk) hkj);have hind:qg6 e f=true:=hi i (by simp) hlt _ _ he hfj;have hsp:=qm5 hind;have hfs:=zjg hind hf;refine ⟨oj,f,pj,hoj,hfj,hfs,(zlv hfs (fun t ht=>(hsp.1 t ht).1)).symm.trans hpj,?_⟩;rw [List.erase_cons_tail (by simpa using hij)];refine ⟨o,e,p,ho,he,zec hind heff,(zlv heff (fun t ht=>hsp.2.1 t ht)).trans hpan,?_⟩;rw [← zps hind];exact hrr
theorem zyo (hC:CxOK P C) {o:Oper} {st:St} {a:Act} {W:List Tmp} {p:Pan} (hi:InvG P E st a w W F γ) (h:qh3 C o st.sl=some p) (hb:p.bad=true) (hn:qr p.good) (K:Act->World->Prop) (Q:Exit->Act->World->Prop)
  (hq:∀ w',I P E (qid st) a w'->Q (.panic [{ v:=p.pv.val,recovered:=false }]) a w'):o.guard=none/\o.wp P a w K Q:=by
 unfold qh3 at h;split at h<;>try trivial
 rename_i f0 cargs ts f caps args hg ho hvs;refine ⟨hg,?_⟩;split at h<;>try trivial
 rename_i pc hpc;split at h<;>try trivial
 rename_i xs hrs;split at h<;>try trivial
 rename_i x n hdec;cases h;obtain ⟨hn1,hn2⟩:=xl.1 hn;have hev:=qkc hi.sl o.op.operands.toList;rw [hvs] at hev;have hops:o.op.operands.toList.map a.eval=a.eval f0::(cargs.map a.eval).toList:=by simp [ho,Op.operands,Call.operands]
 rw [hops] at hev;obtain ⟨⟨_,hfv⟩,hargs⟩:=hev;obtain ⟨cv,e1,e2,e3⟩:=hfv;have hcaps:=zd9 e2 e3;have hrun:(∀ args w,(callFunc f args).run P w = .ok (.enter f args) w)->(execOp a.eval o).run P w = .ok (.enter f (cargs.map a.eval++cv)) w:=fun hen=>by
  unfold execOp;rw [ho];simp [resolve,e1,Deferred.ofValue,invoke,hen]
 have harr:((cargs.map a.eval).toList++cv.toList).toArray=cargs.map a.eval++cv:=by simp
 have hall:(args++caps.map AV.c).all nmA=true:=by
  have:∀ (l:List AV),(∃ xs u',qcj (fun _=>none) l=some (xs,u'))->l.all nmA=true:=by
   intro l
   induction l with
   |nil=>intros; rfl
   |cons y l ih=>
    rintro ⟨xs,u',hx⟩;simp only [qcj] at hx;split at hx<;>try trivial
    rename_i h1 h2;simp only [uc8,ua1];refine ⟨?_,ih ⟨_,_,h2⟩⟩;cases y<;>first|rfl|(simp [rsA] at h1)
  exact this _ ⟨_,_,hrs⟩
 have hargs':zr P w F (qp st.mem γ) (args++caps.map AV.c) ((cargs.map a.eval).toList++cv.toList):=by
  refine qle (qld hargs ?_) hcaps;rw [ufv,ua1] at hall;exact hall.1
 obtain ⟨F1,s1,m1,_,r1⟩:=wv hi.mem (kj hi) (qa6.of fun _ _ h=>by cases h) hrs hargs';have hps:=qf9 hC.ct hdec hn1 r1;obtain ⟨hen,hcalls⟩:=hC.pc f pc hpc;have hc:=hcalls w F1 x _ s1.bd hps hn2;unfold Oper.wp;rw [hrun hen];show Calls P f (cargs.map a.eval++cv) w _;rw [harr] at hc;have hb':pc.bad x=true:=hb;refine hc.mono fun e w2 hp=>?_;rcases hp with ⟨hbad,_⟩|⟨hbad,rfl,hbel⟩
 ·rw [hb'] at hbad;cases hbad
 ·refine hq w2 ⟨F1,γ,?_⟩;obtain ⟨s2,m2⟩:=Step.below m1 (Step.size' hi) s1.bd hbel (F':=F1) (fun _ h=>h) (fun b hb=>⟨.inl hb,ubj (s1.bd b hb) hbel.size⟩);have s3:=s1.trans s2;obtain ⟨γ0,h0⟩:=hi.step;exact qit (W:=W) ⟨hi.n,hi.df,⟨γ0,h0.trans s3⟩,m2,fun t=>(hi.sl t).mono s3.hF s3.hw s3.hR,hi.hg,fun t=>s3.repA (hi.gh t)⟩
theorem yc6 {st:St} {a:Act} {D:List Tmp} {s0:St} (h:InvG P E (qid st) a w [] F γ) (hs:∀ t,t ∉ D->st.sl t=s0.sl t):InvG P E ⟨st.n,za1 D s0.sl,st.mem,st.gs⟩ a w [] F γ:=by
 refine ⟨h.n,h.df,h.step,h.mem,fun t=>?_,fun t g want v ht=>?_,h.gh⟩
 ·show vz P w F _ _ (if D.contains t then AV.dead else clr s0.sl t) _;split
  ·trivial
  ·rename_i hd;have hd':t ∉ D:=fun hm=>hd (by simpa using hm);have e:clr s0.sl t=clr st.sl t:=by
    unfold clr;rw [hs t hd']
   rw [e];exact h.sl t
 ·have ht':(if D.contains t then AV.dead else clr s0.sl t) = .maybe g want v:=ht;split at ht'
  ·cases ht'
  ·rename_i hd;have hd':t ∉ D:=fun hm=>hd (by simpa using hm);have e:clr s0.sl t=clr st.sl t:=by
    unfold clr;rw [hs t hd']
   rw [e] at ht';exact h.hg t g want v ht'
def zgq (pv:PV) (x:Ef×Option Pan):Prop:=match x.2 with
 |none=>qr x.1.need
 |some p=>(p.bad=false->qr x.1.need)/\(p.bad=true->qr p.good/\p.pv=pv)
theorem ycr {pv:PV} {x:Ef×Option Pan} (h:qr (zte pv x)):zgq pv x:=by
 obtain ⟨e,p⟩:=x;cases p with
 |none=>exact h
 |some p=>exact ⟨h.1,h.2⟩
def zci (P:Program) (E:Env) (C:Cx) (b:Nat) (ops:Array Oper) (es:List (Ef×Option Pan)) (D:List Tmp) (s0 s':St) (rem:List Nat) (a:Act) (w:World):Prop:=
 ∃ st W F γ,InvG P E st a w W F γ/\(∀ t,t∈W↔∃ k o,ops[k]? = some o/\k ∉ rem/\o.dst=some t)/\qwk P C b ops es s' rem st/\st.n=s'.n/\st.gs=s0.gs /\
  (∀ (k:Nat) e p,es[k]? = some (e,some p)->k ∉ rem->p.bad=false)/\((∃ k:Nat,∃ e p,k∈rem/\es[k]? = some (e,some p))->st.mem=s0.mem/\∀ t,t ∉ D->st.sl t=s0.sl t)
theorem zyy (hC:CxOK P C) {D:List Tmp} {s0 s':St} {rem:List Nat} {a:Act} (hi:zci P E C b ops es D s0 s' rem a w) {j:Nat} (hj:j∈rem) (hp:rem.Pairwise (· < ·))
  (hfront:∀ i∈rem,i<j->∀ e f,es[i]? = some e->es[j]? = some f->qg6 e.1 f.1=true) (hguard:∀ o j' want,ops[j]? = some o->o.guard=some (j',want)->j' ∉ rem) (hst:StatOK s'.n ops)
  {pv:PV} (hgood:∀ (i:Nat) x,es[i]? = some x->zgq pv x) (hwr:∀ f p,es[j]? = some (f,p)->(f.wr ≠ [] ∨ ∃ t,f.dst=some t/\t ∉ D)->∀ (k:Nat) e q,es[k]? = some (e,some q)->k ∉ rem) (hn0:s0.n=s'.n)
  (K:Act->World->Prop) (Q:Exit->Act->World->Prop) (hK:∀ a' w',zci P E C b ops es D s0 s' (rem.erase j) a' w'->K a' w')
  (hQ:(∃ k:Nat,∃ e p,es[k]? = some (e,some p)/\p.bad=true)->∀ a' w',I P E ⟨s0.n,za1 D s0.sl,s0.mem,s0.gs⟩ a' w'->Q (.panic [{ v:=pv.val,recovered:=false }]) a' w'):wpOp P ops Q j K a w:=by
 obtain ⟨st,W,F,γ,hinv,hW,hruns,hn,hgs,hdone,hmem⟩:=hi;obtain ⟨o,f,p,ho,hf,heff,hpan,hr⟩:=zxk rem st hruns hp hj hfront;have hnd:rem.Nodup:=qht hp;have hmemE:∀ k,k ∉ rem.erase j↔k=j∨k ∉ rem:=fun k=>by
  rw [hnd.mem_erase_iff];constructor
  ·intro h;by_cases hk:k=j
   ·exact .inl hk
   ·exact .inr fun h'=>h ⟨hk,h'⟩
  ·rintro (h|h) ⟨h1,h2⟩
   ·exact h1 h
   ·exact h h2
 unfold wpOp;rw [ho];simp only;have hg:=hgood j _ hf;by_cases hbad:∃ q,p=some q/\q.bad=true
 ·obtain ⟨q,rfl,hq⟩:=hbad;obtain ⟨hgq,hpv⟩:=hg.2 hq;have hm0:=hmem ⟨j,f,q,hj,hf⟩;have key:=zyo hC (K:=K) (Q:=Q) hinv hpan hq hgq (fun w' hiw=>by
   rw [hpv];refine hQ ⟨j,f,q,hf,hq⟩ a w' ?_;obtain ⟨F1,γ1,hiw⟩:=hiw;rw [hn0,← hn,← hm0.1,← hgs];exact ⟨F1,γ1,yc6 hiw hm0.2⟩)
  have hw:Region.wanted o (yielded ops a.tmps)=true:=by simp [Region.wanted,key.1]
  rw [if_pos hw];exact .inl key.2
 ·have hneed:qr f.need:=by
   cases p with
   |none=>exact hg
   |some q=>
    refine hg.1 ?_;cases hq:q.bad with
    |false=>rfl
    |true=>exact absurd ⟨q,rfl,hq⟩ hbad
  have key:=zdl (Γ:=⟨gP C,fun _=>none⟩) ⟨yqv hC,fun _ _ h=>(nomatch h)⟩ (ops:=ops) hinv heff hneed (fun x hx=>⟨by rw [hn]; exact hst.lt j o x ho hx,fun hxW=>by
    obtain ⟨k,ok,hok,hk,hd⟩:=(hW x).1 hxW;have:=hst.once j k o ok x ho hok hx hd;subst this;exact hk hj⟩)
   (fun j' want g hg hd=>by
    have h1:=hguard o j' want ho hg;cases ho':ops[j']? with
    |none=>rw [ho'] at hd; cases hd
    |some o'=>
     rw [ho'] at hd;exact (hW g).2 ⟨j',o',ho',h1,hd⟩)
   K Q (fun a' w' F' γ' hinv'=>hK a' w' ⟨f.go st,_,F',γ',hinv',fun t=>?_,hr,hn,hgs,fun k e q hk hkr=>?_,fun hex=>?_⟩)
  ·split
   ·rename_i hw;rw [if_pos hw] at key;exact .inl key
   ·rename_i hw;rw [if_neg hw] at key;exact key
  ·rw [ubc,hW];constructor
   ·rintro (h|⟨k,ok,h1,h2,h3⟩)
    ·exact ⟨j,o,ho,(hmemE j).2 (.inl rfl),by simpa using h⟩
    ·exact ⟨k,ok,h1,(hmemE k).2 (.inr h2),h3⟩
   ·rintro ⟨k,ok,h1,h2,h3⟩;rcases (hmemE k).1 h2 with rfl|h
    ·rw [ho] at h1;cases h1;exact .inl (by simp [h3])
    ·exact .inr ⟨k,ok,h1,h,h3⟩
  ·rcases (hmemE k).1 hkr with rfl|h
   ·rw [hf] at hk;cases hk;cases hq:q.bad with
    |false=>rfl
    |true=>exact absurd ⟨q,rfl,hq⟩ hbad
   ·exact hdone k e q hk h
  ·obtain ⟨k,e,q,hk,hke⟩:=hex;have hkr:=ug1 hk;have hm0:=hmem ⟨k,e,q,hkr,hke⟩;refine ⟨?_,fun t ht=>?_⟩
   ·show qx st.mem f.wr=s0.mem;have hnil:f.wr=[]:=by
     apply Classical.byContradiction;intro hne;exact hwr f p hf (.inl hne) k e q hke hkr
    rw [hnil];exact hm0.1
   ·show qdj st.sl f.dst f.v t=s0.sl t;rw [← hm0.2 t ht];cases hx:f.dst with
    |none=>rfl
    |some x=>
     have hne:t≠x:=fun htx=>by
      subst htx;exact hwr f p hf (.inr ⟨t,hx,ht⟩) k e q hke hkr
     exact if_neg hne
theorem zz9 (h:zvi ops.toList es=true) {j:Nat} {f:Ef} {p:Option Pan} (hj:es[j]? = some (f,p)) (hne:f.wr ≠ []) {k:Nat} {e:Ef} {q:Pan} (hk:es[k]? = some (e,some q)):((xi [] ops.toList).getD j 0).testBit k=true:=by
 unfold zvi at h;rw [List.all_eq_true] at h;have hjl:=(List.getElem?_eq_some_iff.1 hj).1;have hkl:=(List.getElem?_eq_some_iff.1 hk).1;have h1:=h j (List.mem_range.2 hjl);rw [hj] at h1;split at h1
 ·rename_i f' p' mask hf' hm;simp only [ua0,ua9] at hf';obtain ⟨rfl,rfl⟩:=hf';rw [uca] at h1;rcases h1 with h1|h1
  ·exact absurd (by simpa using h1) hne
  ·rw [ucj] at h1;have h2:=h1 k (udv.2 hkl);rw [hk] at h2;rw [ua6,hm];exact h2
 ·cases h1
theorem zsg {j:Nat} {f:Ef} {p:Option Pan} {t:Tmp} (hj:es[j]? = some (f,p)) (hd:f.dst=some t) (ht:t ∉ qrd ops.toList es) {mask:Nat} (hm:(xi [] ops.toList)[j]? = some mask) {k:Nat} {e:Ef} {q:Pan} (hk:es[k]? = some (e,some q)):mask.testBit k=true:=by
 apply Classical.byContradiction;intro hn;apply ht;have hjl:=(uaj.1 hj).1;have hkl:=(uaj.1 hk).1;refine uf3.2 ⟨j,udv.2 hjl,?_⟩;rw [hj,hm];show (if _ then none else f.dst)=some t;rw [if_neg,hd];intro hall;rw [ucj] at hall;have:=hall k (udv.2 hkl);rw [hk] at this;exact hn this
theorem zl7 (hC:CxOK P C) {D:List Tmp} (hD:D=qrd ops.toList es) {s0 s':St} (hst:StatOK s'.n ops) (hord:qkp ops.toList (es.map (·.1))=true) (hwro:zvi ops.toList es=true) {pv:PV} (hgood:∀ (i:Nat) x,es[i]? = some x->zgq pv x) (hn0:s0.n=s'.n) (Q:Exit->Act->World->Prop)
  (hQ:∀ a w,zci P E C b ops es D s0 s' [] a w->Q .normal a w)
  (hQp:(∃ k:Nat,∃ e p,es[k]? = some (e,some p)/\p.bad=true)->∀ a' w',I P E ⟨s0.n,za1 D s0.sl,s0.mem,s0.gs⟩ a' w'->Q (.panic [{ v:=pv.val,recovered:=false }]) a' w') :
  (fuel:Nat)->∀ (rem:List Nat) (listed:Array Bool) (a:Act) (w:World),rem.length<=fuel->rem.Pairwise (· < ·)->listed.size=ops.size->(∀ i,i<ops.size->(listed.getD i true=false↔i∈rem))->(∀ i∈rem,i<ops.size) ->
   (∀ k,k<ops.size->k ∉ rem->∀ i,((xi [] ops.toList).getD k 0).testBit i=true->i ∉ rem)->zci P E C b ops es D s0 s' rem a w->wpAny P .any ops Q fuel listed a w
 |fuel,[],listed,a,w,_,_,hsz,hl,_,_,hi=>by
  have hnil:Region.ready .any ops listed=[]:=by
   apply List.eq_nil_iff_forall_not_mem.2;intro i hmem;obtain ⟨h1,o,ho,_⟩:=ue2.1 hmem;have hlt:=(uaa.1 ho).1;simpa using (hl i hlt).1 h1
  cases fuel with
  |zero=>exact ⟨hnil,hQ a w hi⟩
  |succ fuel=>exact ⟨fun _=>hQ a w hi,fun i hmem=>by rw [hnil] at hmem; simp at hmem⟩
 |0,i::r,_,_,_,hlen,_,_,_,_,_,_=>by simp at hlen
 |fuel+1,i::r,listed,a,w,hlen,hp,hsz,hl,hlt,hmask,hi=>by
  have hready:i∈Region.ready .any ops listed:=by
   have hio:=hlt i (by simp);refine ue2.2 ⟨(hl i hio).2 (by simp),ops[i],by simp [hio],fun e he hb=>?_⟩;have hback:=hst.back i ops[i] (by simp [hio]) e he hb;have hnot:e.on ∉ i::r:=fun hh=>by
    rcases ua2.1 hh with h|h
    ·omega
    ·have:=(ub2.1 hp).1 _ h;omega
   have h1:¬ listed.getD e.on true=false:=fun h=>hnot ((hl e.on (by omega)).1 h);have hsz':e.on<listed.size:=by omega
   simp only [ubh,ubg hsz',ucv] at h1 ⊢;simpa using h1
  refine ⟨fun hnil=>by rw [hnil] at hready; simp at hready,fun j hj=>?_⟩;obtain ⟨hj1,o,ho,hjall⟩:=ue2.1 hj;have hjlt:=(uaa.1 ho).1;have hjrem:=(hl j hjlt).1 hj1;have hlisted:∀ b,listed.getD b false=true->b<ops.size/\b ∉ i::r:=fun b hb=>by
   have hbs:b<listed.size:=by
    rcases uar b listed.size with h|h
    ·exact h
    ·simp [uel h] at hb
   refine ⟨by omega,fun hmem=>?_⟩;have:=(hl b (by omega)).2 hmem;simp only [ubh,ubg hbs,ucv] at hb this;rw [hb] at this;cases this
  obtain ⟨m,hm1,hm2⟩:=(qqn ops.toList []).2 j o (by simpa using ho);simp only [ub9,uai] at hm1;have hmj:∀ b,((xi [] ops.toList).getD j 0).testBit b=true->b ∉ i::r:=fun b hb=>by
   rw [ua6,hm1] at hb;obtain ⟨e,he,hb',hor⟩:=hm2 b hb;obtain ⟨h1,h2⟩:=hlisted e.on (hjall e he hb');rcases hor with rfl|h
   ·exact h2
   ·exact hmask e.on h1 h2 b h
  have hnd:(i::r).Nodup:=qht hp;refine zyy hC hi hjrem hp (fun k hk hkj e f he hf=>?_) (fun o' j' want ho' hg hmem=>?_) hst hgood (fun f p hf hne k e q hk=>?_) hn0 _ Q (fun a' w' h'=>?_) hQp
  ·have he':(es.map (·.1))[k]? = some e.1:=by rw [udi,he]; rfl
   have hf':(es.map (·.1))[j]? = some f.1:=by rw [udi,hf]; rfl
   exact (qve hord he' hf' hkj).resolve_left fun h=>hmj k h hk
  ·obtain ⟨_,e,he,heq,hb⟩:=hst.guard j o' j' want ho' hg;rw [ho] at ho';cases ho';have:=(hlisted e.on (hjall e he hb)).2;rw [heq] at this;exact this hmem
  ·rcases hne with hne|⟨t,hdt,htD⟩
   ·exact hmj k (zz9 hwro hf hne hk)
   ·refine hmj k ?_;rw [ua6,hm1];exact zsg hf hdt (hD ▸ htD) hm1 hk
  ·refine zl7 hC hD hst hord hwro hgood hn0 Q hQ hQp fuel _ (listed.setIfInBounds j true) a' w' ?_ (qro hp j) (by simpa using hsz) (fun k hk=>?_) (fun k hk=>hlt k (ug1 hk)) (fun k hk hkr b hb=>?_) h'
   ·rw [List.length_erase_of_mem hjrem];omega
   ·rw [hnd.mem_erase_iff];by_cases hkj:j=k
    ·subst hkj;simp [hsz,hjlt]
    ·simp only [ubh,uew hkj];rw [← ubh,hl k hk];constructor
     ·exact fun h=>⟨Ne.symm hkj,h⟩
     ·exact fun h=>h.2
   ·rw [hnd.mem_erase_iff] at hkr ⊢;rintro ⟨h1,h2⟩;by_cases hkj:k=j
    ·subst hkj;exact hmj b hb h2
    ·exact hmask k hk (fun hh=>hkr ⟨hkj,hh⟩) b hb h2
theorem zf1 {d:St} {all:List (Ef×Option Pan)} {good:Tr} {Q:XE->St->Prop}:{ps:List Pan}->(zvb d all good ps).sat Q->(∃ p∈ps,p.bad=true/\qr (all.flatMap (zte p.pv))/\Q (.panic p.pv) d)∨((∀ p∈ps,p.bad=false)/\good.sat Q)
 |[],h=>.inr ⟨fun p hp=>by simp at hp,h⟩
 |p::r,h=>by
  cases hb:p.bad with
  |true=>
   obtain ⟨h1,h2⟩:=qa0 _ (h.1 hb);exact .inl ⟨p,by simp,hb,h1,h2⟩
  |false=>
   rcases zf1 (h.2 hb) with ⟨q,h1,h2⟩|⟨h1,h2⟩
   ·exact .inl ⟨q,ua8 _ h1,h2⟩
   ·refine .inr ⟨fun q hq=>?_,h2⟩;rcases ua2.1 hq with rfl|hq
    ·exact hb
    ·exact h1 q hq
theorem quk {A:Type} {f:A->List Prop}:{l:List A}->qr (l.flatMap f)->∀ x∈l,qr (f x)
 |[],_,x,hx=>by simp at hx
 |y::r,h,x,hx=>by
  rw [uey] at h;obtain ⟨h1,h2⟩:=xl.1 h;rcases ua2.1 hx with rfl|hx
  ·exact h1
  ·exact quk h2 x hx
theorem zoo (hC:CxOK P C) {id:Nat}:qkz P E (.region id ops true) (zdq P C b ops.toList):=by
 intro s t h Q hq a w hi;unfold zdq at h;split at h<;>try trivial
 rename_i hstat;split at h<;>try trivial
 rename_i es s' hrun;split at h<;>try trivial
 rename_i hord;cases h;have hn:=zmd _ _ _ _ hrun;have hst:StatOK s'.n ops:=by rw [hn]; exact qpx hstat
 have hruns:qwk P C b ops es s' (List.range' 0 ops.size) s:=by
  have:=zmf (es:=es) ops.toList 0 s es hrun (fun i o hi=>by simpa using hi) (fun i e hi=>by simpa using hi);simpa using this
 have hlen:es.length=ops.size:=by
  have:=qt1 _ _ _ _ hrun;simpa using this
 obtain ⟨F,γ,hi⟩:=hi;have hstart:∀ w',InvG P E s a w' [] F γ->zci P E C b ops es (qrd ops.toList es) s s' (List.range' 0 ops.size) a w':=fun w' hi'=>by
  refine ⟨s,[],F,γ,hi',fun t=>?_,hruns,hn.symm,rfl,fun k e p hk hnot=>?_,fun _=>⟨rfl,fun _ _=>rfl⟩⟩
  ·constructor
   ·intro hh; simp at hh
   ·rintro ⟨k,o,hk,hnot,_⟩;exfalso;apply hnot;rw [uck];have:=(uaa.1 hk).1;omega
  ·exfalso;apply hnot;rw [uck];have:=(uaj.1 hk).1;omega
 have key:∀ pv:PV,(∀ (i:Nat) x,es[i]? = some x->zgq pv x)->(∀ a' w',zci P E C b ops es (qrd ops.toList es) s s' [] a' w'->qa8 P E Q .normal a' w') ->
   ((∃ k:Nat,∃ e p,es[k]? = some (e,some p)/\p.bad=true)->∀ a' w',I P E ⟨s.n,za1 (qrd ops.toList es) s.sl,s.mem,s.gs⟩ a' w'->qa8 P E Q (.panic [{ v:=pv.val,recovered:=false }]) a' w')->(Code.region id ops true).wp P (qa8 P E Q) a w:=by
  intro pv hg hend hpan;refine wp_region_any hC.mo ?_;refine zl7 hC rfl hst hord.1 hord.2 hg hn.symm _ hend hpan ops.size (List.range' 0 ops.size) _ a _ (by simp) ug0 (by simp) (fun i hi'=>?_) (fun i hi'=>?_) (fun k hk hnot=>?_) (hstart _ (zlb hi))
  ·simp only [uck,ubh,uem,hi',if_true,ucv,true_iff];omega
  ·rw [uck] at hi';omega
  ·exfalso;apply hnot;rw [uck];omega
 rcases zf1 hq with ⟨p,hp,hb,hall,hQ⟩|⟨hno,hgood⟩
 ·refine key p.pv (fun i x hx=>ycr (quk hall x (ube hx))) ?_ (fun _ a' w' hiw=>⟨.panic p.pv,_,rfl,hiw,hQ⟩);rintro a' w' ⟨st,W,F',γ',hinv,_,_,_,_,hdone,_⟩;exfalso;obtain ⟨x,hx,hxp⟩:=uf3.1 hp;obtain ⟨i,hi⟩:=ud3 hx;obtain ⟨e,q⟩:=x;simp only at hxp;subst hxp;have:=hdone i e p hi (by simp);rw [hb] at this;cases this
 ·obtain ⟨hneed,hq'⟩:=qvc _ hgood;have hbadF:∀ (k:Nat) e p,es[k]? = some (e,some p)->p.bad=false:=fun k e p hk=>hno p (uf3.2 ⟨(e,some p),ube hk,rfl⟩);refine key ⟨0,.i64,0⟩ (fun i x hx=>?_) ?_ ?_
  ·obtain ⟨e,p⟩:=x;have hne:qr e.need:=hneed e (udd.2 ⟨(e,p),ube hx,rfl⟩);cases p with
   |none=>exact hne
   |some q=>exact ⟨fun _=>hne,fun hb=>by rw [hbadF i e q hx] at hb; cases hb⟩
  ·rintro a' w' ⟨st,W,F',γ',hinv,_,hr,_⟩;have hr':st=s':=hr;subst hr';exact ⟨.normal,_,rfl,⟨F',γ',qit hinv⟩,hq'⟩
  ·rintro ⟨k,e,p,hk,hb⟩;rw [hbadF k e p hk] at hb;cases hb
end
def zwr:List Oper->Option (FuncId×Tmp)
 |[⟨none,.defer ⟨.value (.func f),args,_⟩,_,_,_,none⟩]=>match args.toList with
  |[.tmp tp]=>some (f,tp)
  |_=>none
 |_=>none
def zut (P:Program) (C:Cx) (run:St->Option Tr) (T:TypeId) (k:IntKind) (fn:Func) (A:Code) (tp:Tmp) (ps:List PT) (rs:List Ty) (xs:qn ps):Option (Fr (qi rs)):=
 if (fn.name == "runtime.NumGoroutine")=false/\ps.length<=fn.ntmps then match ja P C 0 qq A 0 (qos fn.ntmps (qg2 ps xs)) with
  |some (.leaf .normal s1)=>match s1.sl tp with
   |.c (.ptr id 0)=>match run ⟨s1.n,s1.sl,s1.mem,fun t=>if t=0 then .c (.ptr id 0) else .dead⟩ with
    |some t=>frD P T k fn.results.toList rs t
    |none=>none
   |_=>none
  |_=>none
 else none
section
variable {P:Program} {w w':World} {E:Env} {F F':Nat->Prop} {γ γ':Nat->Value}
theorem ybx {C:Cx} (hC:CxOK P C) {run:St->Option Tr} {f g:FuncId} {T:TypeId} {k:IntKind} {fn:Func} {A c:Code} {rid:Nat} {ops:Array Oper} {tp:Tmp} {ps:List PT} {rs:List Ty} {fr:qn ps->Fr (qi rs)} (x0:qn ps)
  (hf:P.funcs[f]? = some fn) (hb:fn.body=some (.seq A (.seq (.region rid ops false) c))) (hd:zwr ops.toList=some (g,tp)) (hT:TolOK P g T k) (hR:∀ E,qkz P E c run)
  (hrun:∀ xs,zut P C run T k fn A tp ps rs xs=some (fr xs)):qa P f ⟨ps,rs,fun xs=>(fr xs).get,fun xs=>[(fr xs).ok]⟩:=by
 have h0:=hrun x0
 unfold zut at h0
 split at h0<;>try (cases h0; done)
 rename_i hc
 refine ⟨enters hf hb hc.1,fun w F xs vs hbd hr hok=>calls_of_wp_defers hf hb ?_⟩
 have hr':=hrun xs
 unfold zut at hr'
 simp only [hc,and_self,if_true] at hr'
 split at hr'<;>try (cases hr'; done)
 rename_i s1 ht1
 split at hr'<;>try (cases hr'; done)
 rename_i id hsl
 split at hr'<;>try (cases hr'; done)
 rename_i t ht2
 have hlen:vs.length=ps.length:=qiv hr
 have hstart:=qi3 (D:=[]) (n:=fn.ntmps) hbd (fun R=>qex (R:=R) hr) (by have:=hc.2; omega)
 have hsz:(vs.toArray).size=vs.length:=by simp
 rw [hsz]
 refine wp_seq (wp_mono (yx hC A 0 (qe A 0) ht1 (Q:=fun e s=>e = .normal/\s=s1) ⟨rfl,rfl⟩ hstart) ?_)
 rintro e a1 w1 ⟨xe,s,rfl,⟨F1,γ1,hi⟩,rfl,rfl⟩
 have hv0:=qkl hi tp
 rw [hsl] at hv0
 obtain ⟨_,b0,hR0,hv0⟩:=hv0
 refine wp_seq (ugq ?_)
 unfold zwr at hd
 split at hd<;>try (cases hd; done)
 rename_i f0 args ats ty pos aft hops
 split at hd<;>try (cases hd; done)
 rename_i tp0 hargs
 simp only [ua0,ua9] at hd
 obtain ⟨rfl,rfl⟩:=hd
 obtain ⟨ol⟩:=ops
 simp only at hops
 subst hops
 have hargs':args = #[.tmp tp0]:=by
  obtain ⟨l⟩:=args
  simp only at hargs
  rw [hargs]
 subst hargs'
 have hev:a1.eval (.tmp tp0) = .pointer (some ⟨b0,0,none⟩):=hv0
 have hexec:(execOp a1.eval ⟨none,.defer ⟨.value (.func f0),#[.tmp tp0],ats⟩,ty,pos,aft,none⟩).run P w1 = .ok (.defer { target:=.fn (.func f0) #[],args:=#[.pointer (some ⟨b0,0,none⟩)] }) w1:=by
  have hef:a1.eval (.func f0) = .func (.func f0) #[] #[]:=rfl
  simp [execOp,resolve,hev,hef,Deferred.ofValue]
 have hrange:List.range (#[(⟨none,.defer ⟨.value (.func f0),#[.tmp tp0],ats⟩,ty,pos,aft,none⟩:Oper)]:Array Oper).size=[0]:=rfl
 rw [hrange]
 show wpOps P _ _ [0] a1 w1
 unfold wpOps
 simp only [ugn,ubn]
 have hw:Region.wanted (⟨none,.defer ⟨.value (.func f0),#[.tmp tp0],ats⟩,ty,pos,aft,none⟩:Oper) (yielded #[(⟨none,.defer ⟨.value (.func f0),#[.tmp tp0],ats⟩,ty,pos,aft,none⟩:Oper)] a1.tmps)=true:=rfl
 rw [if_pos hw]
 refine .inl ?_
 unfold Oper.wp
 rw [hexec]
 rw [Oper.upon_defer]
 simp only [wpOps]
 show Code.wp P c (bodyPostD P fn (qd1 w F rs (fr xs).get)) { a1 with defers:={ target:=.fn (.func f0) #[],args:=#[.pointer (some ⟨b0,0,none⟩)] }::a1.defers } w1
 have hi':InvG P ⟨w,F,fun _=>.pointer (some ⟨b0,0,none⟩),[{ target:=.fn (.func f0) #[],args:=#[.pointer (some ⟨b0,0,none⟩)] }],w.heap.size,ua3 _⟩ ⟨s.n,s.sl,s.mem,fun t=>if t=0 then .c (.ptr id 0) else .dead⟩ { a1 with defers:={ target:=.fn (.func f0) #[],args:=#[.pointer (some ⟨b0,0,none⟩)] }::a1.defers } w1 [] F1 γ1:=by
  refine ⟨hi.n,?_,hi.step,hi.mem,hi.sl,hi.hg,fun t=>?_⟩
  ·show _::a1.defers=[_]
   rw [hi.df]
  ·show qz P w1 F1 _ (if t=0 then .c (.ptr id 0) else .dead) _
   split
   ·exact ⟨rfl,b0,hR0,rfl⟩
   ·trivial
 have hwp:=hR ⟨w,F,fun _=>.pointer (some ⟨b0,0,none⟩),[{ target:=.fn (.func f0) #[],args:=#[.pointer (some ⟨b0,0,none⟩)] }],w.heap.size,ua3 _⟩ _ _ ht2 _ (qke hr' hok) _ _ ⟨F1,γ1,hi'⟩
 refine wp_mono hwp ?_
 rintro e a2 w2 ⟨xe,s2,rfl,⟨F2,γ2,hi2⟩,hx⟩
 have hinv:∀ W,(invoke (.fn (.func f0) #[]) #[.pointer (some ⟨b0,0,none⟩)]).run P W = .ok (.enter f0 #[.pointer (some ⟨b0,0,none⟩)]) W:=fun W=>by
  have:=hT.enter #[.pointer (some ⟨b0,0,none⟩)] W
  simp [invoke,this]
 have hfin:(∃ n,qa7 P fn.results.toList rs s2=some (Fr.needL n (.val (fr xs).get))/\qr n)->Leaves P fn a2.tmps (qd1 w F rs (fr xs).get) a2.defers .returning w2:=by
  rintro ⟨n,hend,hn⟩
  rw [hi2.df]
  refine udo (by simp) (hinv w2) ((hT.idle _ w2).mono ?_)
  rintro e u' w' ⟨⟨v,rfl⟩,rfl,rfl⟩
  exact qin hi2 rfl hend hn
 cases xe with
 |normal=>exact hfin hx
 |ret=>exact hfin hx
 |exit _=>exact hx.elim
 |val _=>exact hx.elim
 |jump _=>exact hx.elim
 |panic p=>
  obtain ⟨s',n,hs',hin,hend,hn⟩:=hx
  obtain ⟨hty,hk,hlow,b,tyb,old,hG,hheap,hi3⟩:=zmx hi2 hs' hin
  have hG':(Value.pointer (some ⟨b0,0,none⟩)) = .pointer (some ⟨b,0,none⟩):=hG
  simp only [ucx,ua0,ue0,ud7] at hG'
  subst hG'
  show Leaves P fn a2.tmps _ a2.defers (.panicking [{ v:=p.val,recovered:=false }]) w2
  rw [PV.val_low (by rw [hty]; exact hlow),hi2.df,hty,hk]
  refine udo (by simp) (hinv w2) ((hT.told b0 tyb old p.n w2 hheap).mono ?_)
  rintro e u' w' ⟨⟨v,rfl⟩,rfl,rfl⟩
  exact qin hi3 rfl hend hn
end
end Go.Ab

namespace Go.Ab
open Go Go.RowKit
section
variable {P:Program} {E:Env}
theorem qco.scope2 {c rest:Code} {L0 L N Eo R:LS} {n id l:Nat} {f0:L0.X->Fr (Rd L.X Eo.X R.X)} {f:L.X->Fr (Rd L.X Eo.X R.X)} (hf:findLabel c l=some rest) (h1:qco P l c L0 ⟨n,id,L,Eo,R⟩ f0) (h2:qco P l rest L ⟨n,id,L,Eo,R⟩ f)
  {F0:L0.X->Fr (Rd N.X Eo.X R.X)} {F:L.X->Fr (Rd N.X Eo.X R.X)} {inv:L.X->Prop} {μ:L.X->Nat}
  (hlaw0:∀ x,∀ Q:Rd N.X Eo.X R.X->Prop,(F0 x).satP Q->(f0 x).satP fun
   |.next x'=>inv x'/\(F x').satP Q
   |.out y=>Q (.out y)
   |.back z=>Q (.back z)
   |.pan p=>Q (.pan p))
  (hlaw:∀ x,inv x->∀ Q:Rd N.X Eo.X R.X->Prop,(F x).satP Q->(f x).satP fun
   |.next x'=>inv x'/\μ x'<μ x/\(F x').satP Q
   |.out y=>Q (.out y)
   |.back z=>Q (.back z)
   |.pan p=>Q (.pan p)):qf P (.scope c) L0 ⟨n,id,N,Eo,R⟩ F0:=by
 intro E a w x Q hi hq;have hmono:∀ {J J':Act->World->Prop} {c':Code} {a:Act} {w:World},(∀ a w,J a w->J' a w)->c'.wp P (Exit.jump l J (qqu P E ⟨n,id,N,Eo,R⟩ Q)) a w->c'.wp P (Exit.jump l J' (qqu P E ⟨n,id,N,Eo,R⟩ Q)) a w:=by
  intro J J' c' a w hJ h;refine wp_mono h fun e a' w' he=>?_;cases e with
  |goto l'=>exact ⟨he.1,hJ _ _ he.2⟩
  |_=>exact he
 refine wp_scope_jumps l (fun a w=>∃ m,∃ x,inv x/\μ x=m/\I P E (L.tpl n x) a w/\(F x).satP Q) (fun a w=>qnn fun m=>∃ x,inv x/\μ x=m/\I P E (L.tpl n x) a w/\(F x).satP Q) hf ?_ ?_
 ·refine wp_mono (h1 E a w x _ hi (hlaw0 x Q hq)) ?_;rintro e a' w' ⟨r,hr,hm⟩;cases r with
  |next x'=>
   obtain ⟨rfl,hi'⟩:=hm;exact ⟨rfl,⟨μ x',x',hr.1,rfl,hi',hr.2⟩⟩
  |out y=>
   obtain ⟨rfl,hi'⟩:=hm;exact ⟨.out y,hr,rfl,hi'⟩
  |back z=>
   obtain ⟨rfl,hi'⟩:=hm;exact ⟨.back z,hr,rfl,hi'⟩
  |pan v=>
   obtain ⟨rfl,hi'⟩:=hm;exact ⟨.pan v,hr,rfl,hi'⟩
 ·rintro a w ⟨m,hm⟩;obtain ⟨⟨x',q1,q2,q3,q4⟩,_⟩:=qek (p:=fun m=>∃ x,inv x/\μ x=m/\I P E (L.tpl n x) a w/\(F x).satP Q) ⟨m,hm⟩;refine wp_mono (h2 E a w x' _ q3 (hlaw x' q1 Q q4)) ?_;rintro e a1 w1 ⟨r,hr,hm1⟩;cases r with
  |next y=>
   obtain ⟨rfl,hi'⟩:=hm1;refine ⟨rfl,⟨μ y,y,hr.1,rfl,hi',hr.2.2⟩,?_⟩;rw [← q2];exact ug5 ((qek (p:=fun m=>∃ x,inv x/\μ x=m/\I P E (L.tpl n x) a1 w1/\(F x).satP Q) ⟨μ y,y,hr.1,rfl,hi',hr.2.2⟩).2 (μ y) ⟨y,hr.1,rfl,hi',hr.2.2⟩) hr.2.1
  |out y=>
   obtain ⟨rfl,hi'⟩:=hm1;exact ⟨.out y,hr,rfl,hi'⟩
  |back z=>
   obtain ⟨rfl,hi'⟩:=hm1;exact ⟨.back z,hr,rfl,hi'⟩
  |pan v=>
   obtain ⟨rfl,hi'⟩:=hm1;exact ⟨.pan v,hr,rfl,hi'⟩
end
end Go.Ab

namespace Go.Ab
open Go Go.RowKit
structure GrowOK (P:Program) (f:FuncId) (e:TypeId) (T:Ty) (bytes:Nat):Prop where
 enters:∀ args w,(callFunc f args).run P w = .ok (.enter f args) w
 calls:∀ (w:World) (n:Nat),n<=maxLen->n*bytes<=140737488355328->Calls P f #[.slice none 0 0,.int .i64 n] w fun en w'=>
  ∃ v,en = .returned v/\w.grownBy w' none/\w'.ownsRow w.heap.size e T.size v 0 []
def ztf (f:FuncId) (e:TypeId) (T:Ty) (bytes:Nat) (d:Nat) (g:FuncId) (args:List AV) (s:St):Option Tr:=
 if g=f then match args,s.mem d with
  |[.c .nil,.c (.int .i64 n)],none=>some (needL [0<=n/\n<=maxLen/\n*bytes<=140737488355328] (.leaf (.val (.c (.own d))) ⟨s.n,s.sl,upd s.mem d (.arr e T []),s.gs⟩))
  |_,_=>none
 else none
theorem yh (w:World) (o:Obj) (i:Nat) (h:i<w.heap.size):(w.alloc o).heap[i]? = w.heap[i]? := by
 first
  |exact ufu w o i h
  |exact ufu w o h
theorem zok {w:World} {B B':Nat} {e:TypeId} {size n:Nat} {v:Value} {xs:List Value} (h:w.ownsRow B e size v n xs) (hb:B'<=B):w.ownsRow B' e size v n xs:=
 qjq h fun g hg=>ual hb (h.lt g hg).1
theorem ycu {P:Program} {f:FuncId} {e:TypeId} {T:Ty} {bytes:Nat} (h:GrowOK P f e T bytes):qhy P (ztf f e T bytes):=by
 intro d g args s t ht;unfold ztf at ht;split at ht<;>try trivial
 rename_i hg;subst hg;split at ht<;>try trivial
 rename_i n hmd;cases ht;refine ⟨h.enters,fun E a w F γ vs Q hi hr hq=>?_⟩;obtain ⟨⟨h0,h1,h2⟩,hqv⟩:=hq
 match vs,hr with
 |[v1,v2],⟨⟨_,hv1⟩,⟨_,hv2,_⟩,_⟩=>
  have e1:v1 = .slice none 0 0:=hv1;have e2:v2 = .int .i64 n:=hv2;subst e1;subst e2;obtain ⟨m,rfl⟩:∃ m:Nat,n=m:=⟨n.toNat,by omega⟩;have h3:((m*bytes:Nat):Int)<=140737488355328:=by rw [Int.natCast_mul]; exact h2
  have h4:m*bytes<=140737488355328:=by omega
  refine (h.calls w m (by omega) h4).mono fun en w2 hp=>?_;obtain ⟨v,rfl,hgr,hown⟩:=hp;have hBs:=Step.size' hi;have hlow:w2.ownsRow E.B e T.size v ([]:List T.den).length []:=zok hown hBs;obtain ⟨s1,m1⟩:=qnp (v:=v) (l:=([]:List T.den)) (xs:=[]) hi.mem (kj hi) hBs hmd hgr hlow (fun g hg=>(hown.lt g hg).1) (fun i x hx=>by simp at hx);have hinv:InvG P E ⟨s.n,s.sl,upd s.mem d (.arr e T []),s.gs⟩ a w2 [] F (qck γ d v):=by
   refine ⟨hi.n,hi.df,?_,m1,fun t=>(hi.sl t).mono s1.hF s1.hw s1.hR,hi.hg,fun t=>s1.repA (hi.gh t)⟩;obtain ⟨γ0,h0⟩:=hi.step;exact ⟨γ0,h0.trans s1⟩
  exact ⟨.val (.c (.own d)),_,F,_,hqv,hinv,v,rfl,qfq (qnq hown)⟩
end Go.Ab

namespace Go.Ab
open Go Go.RowKit
section
variable {F:Fence} {n:Nat} {P:Program} {w:World}
def zq6 {α:Type} (F:Fence) (n:Nat) (P:Program) (gf:Nat) (lb:Array Value) (encs:α->Array Value) (E:α->World->World->Prop) (Kp:World->World->Prop) (S:List α->Prop) (N:Nat) (w0:World):Prop:=
 ∀ (l:Nat) (J:List α->World->Prop) (W:World),Below w0.heap.size w0 W->AbidesFrom W.heap.size J ->
  (∀ pre x W0 W1,J pre W0->Below W0.heap.size W0 W1->E x W0 W1->pre.length<N->YieldAt F (n-1) P l (encs x) W1 fun e W'=>e = .returned (.bool true)/\J (pre++[x]) W'/\Kp W1 W') ->
  J [] W->CallsIn F n P gf (#[.func (.yield l) #[] #[]]++lb) W fun e W'=>(∃ v,e = .returned v)/\∃ xs,S xs/\J xs W'
def zy3 {α:Type} (b:Nat) (Kp:World->World->Prop) (I:List α->World->Prop) (xs:List α) (W:World) (e:Exit) (_:Act) (W':World):Prop:=
 e = .normal/\KeepsFrom b W W'/\Kp W W'/\I xs W'
theorem zou {α:Type} {g:Operand} {ps:Array Tmp} {assign body:Code} {Q:Exit->Act->World->Prop} {a:Act}
  (hro:F.round=none) (h1:1<=n) {gf:Nat} {lb:Array Value} (hg:a.eval g = .func (.func gf) #[] lb) (hFg:F.fn gf) (eg:∀ args w,(callFunc gf args).run P w = .ok (.enter gf args) w)
  {encs:α->Array Value} {E:α->World->World->Prop} {Kp:World->World->Prop} {S:List α->Prop} {N:Nat} (hseq:zq6 F (n-1) P gf lb encs E Kp S N w)
  (hKt:∀ {A B C:World},Kp A B->Kp B C->Kp A C) (hKb:∀ (W:World) (l:Nat) (o o':Obj),w.heap.size<=l->W.heap[l]? = some o->o.isCells=false->Kp W (W.putObj l o')) (hps:∀ x,(encs x).size=ps.size)
  (I:List α->World->Prop) (hI:OwnFrom w.heap.size I) (h0:I [] w) (A:List α->α->Act->World->Prop) (hA:∀ pre x a',OwnFrom w.heap.size (fun (_:Unit) W=>A pre x a' W))
  (hassign:∀ (l:Nat) (pre:List α) (x:α) (W0 W:World) (K:Act->World->Prop),I pre W0->Below W0.heap.size W0 W->E x W0 W->(∀ a' W',KeepsFrom w.heap.size W W'->Kp W W'->A pre x a' W'->K a' W') ->
   assign.wpIn (F.inRound l) (n-1-1) P (Exit.then K (fun _ _ _=>False)) { tmps:=(ps.zip (encs x)).foldl (fun t (p,v)=>t.setIfInBounds p v) a.tmps,defers:=[] } W)
  (hbody:∀ (l:Nat) (pre:List α) (x:α) (a':Act) (W:World),A pre x a' W->pre.length<N->body.wpIn (F.inRound l) (n-1-1) P (zy3 w.heap.size Kp I (pre++[x]) W) a' W)
  (hdone:∀ (D:Nat) (xs:List α) (W:World),w.heap.size<=D->S xs->I xs W->W.heap[D]? = some (.deferred (some []))->Q .normal { a with defers:={ target:=.collected D,args:=#[] }::a.defers } W) :
  (Code.rangeFunc g ps assign body).wpIn F n P Q a w:=by
 refine wpIn_rangeFunc fun fn hfn=>?_;rw [hro]
 let mk:LoopState->Option Code->Loop:=fun st pe=>{ state:=st,pending:=pe,fn,tmps:=a.tmps,params:=ps,assign,body,defers:=w.heap.size }
 let d0:Obj:=.deferred (some [])
 have hsz:(w.alloc d0).heap.size=w.heap.size+1:=by simp
 have hL:((w.alloc d0).alloc (.loop (mk .ready none))).heap[w.heap.size+1]? = some (.loop (mk .ready none)):=by
  have:=uax (w.alloc d0) (.loop (mk .ready none))
  rwa [hsz] at this
 have hD:((w.alloc d0).alloc (.loop (mk .ready none))).heap[w.heap.size]? = some d0:=
  (uaq _ _ _ (by rw [hsz]; omega)).trans (uax w _)
 have hbel:Below w.heap.size w ((w.alloc d0).alloc (.loop (mk .ready none))):=((uat _ w).alloc (ua3 _) _).alloc (by rw [hsz]; omega) _;generalize hW1:(w.alloc d0).alloc (.loop (mk .ready none))=W1 at hL hD hbel;have hI1:I [] W1:=by rw [← hW1]; exact hI.alloc _ (hI.alloc _ h0)
 have hs1:W1.heap.size=w.heap.size+2:=by rw [← hW1]; simp
 refine ⟨w.heap.size+1,[{ target:=.collected w.heap.size,args:=#[] }],W1,{ target:=.fn (.func gf) lb,args:=#[.func (.yield (w.heap.size+1)) #[] #[]] },W1,gf,
  #[.func (.yield (w.heap.size+1)) #[] #[]]++lb,W1,?_,?_,?_,?_,fun _=>h1,?_⟩
 ·rw [← hW1];exact run_enterLoop_outer _ _ _ _ _
 ·simp only [resolve,hg];simp [go_sem]
 ·intro f' hf';simp [Target.leads] at hf';subst hf';exact hFg
 ·simp [invoke,go_sem,eg]
 have hwalk:∀ {A:World} {row:Option Nat},(∀ r,row=some r->W1.heap.size<=r/\∃ o:Obj,A.heap[r]? = some o/\o.isWalk=true)->∀ r,row=some r->w.heap.size<=r/\∃ o:Obj,A.heap[r]? = some o/\o.isCells=false:=fun hr r e=>by
  obtain ⟨hb,o,ho,hw⟩:=hr r e;exact ⟨by omega,o,ho,Obj.not_cells_of_walk hw⟩
 refine (hseq (w.heap.size+1) (fun pre W=>I pre W/\W.heap[w.heap.size+1]? = some (.loop (mk .ready none))/\W.heap[w.heap.size]? = some d0) W1 hbel ?_ ?_ ⟨hI1,hL,hD⟩).mono ?_
 ·rintro s X Y row ⟨q1,q2,q3⟩ hgr hr;exact ⟨hI s X Y row q1 hgr (hwalk hr),(grownBy_keeps hgr (fun r e=>(hr r e).2) q2 rfl).trans q2,(grownBy_keeps hgr (fun r e=>(hr r e).2) q3 rfl).trans q3⟩
 ·rintro pre x W0 W ⟨hi0,hl0,hd0⟩ hb0 hE hlen;have hl:=(hb0.block _ (uaa.1 hl0).1).trans hl0;have hd:=(hb0.block _ (uaa.1 hd0).1).trans hd0;refine ⟨fn,_,assign,body,run_yield (P:=P) (args:=encs x) hl (hps x),roundIn_of_wpIn hfn (hassign _ pre x W0 W _ hi0 hb0 hE ?_)⟩;intro a' Wa hka hkpa hax;have hla:=hka.same _ _ (by omega) hl rfl;have hda:=hka.same _ _ (ua3 _) hd rfl;have hlt:w.heap.size+1<Wa.heap.size:=(uaa.1 hla).1;refine ⟨_,run_beginRound hla rfl,?_⟩;have hl2:(Wa.putObj (w.heap.size+1) (.loop { mk .ready none with state:=.busy })).heap[w.heap.size+1]? = some (.loop { mk .ready none with state:=.busy }):=World.putObj_heap_same hlt;have hd2:(Wa.putObj (w.heap.size+1) (.loop { mk .ready none with state:=.busy })).heap[w.heap.size]? = some d0:=(ucc (by omega)).trans hda;have hk2:Kp Wa (Wa.putObj (w.heap.size+1) (.loop { mk .ready none with state:=.busy })):=hKb _ _ _ _ (by omega) hla rfl;refine wpIn_mono (hbody _ pre x a' _ ((hA pre x a').putObj (s:=()) _ hax (by omega) hla rfl) hlen) ?_;rintro e a3 W3 ⟨rfl,hk3,hkp3,hi3⟩;have hl3:=hk3.same _ _ (by omega) hl2 rfl;have hd3:=hk3.same _ _ (ua3 _) hd2 rfl;have hend:=run_endRound (P:=P) none hl3;refine ⟨_,_,hend,rfl,⟨hI.putObj _ hi3 (by omega) hl3 rfl,World.putObj_heap_same (uaa.1 hl3).1,(ucc (by omega)).trans hd3⟩,hKt hkpa (hKt (hKt hk2 hkp3) (hKb _ _ _ _ (by omega) hl3 rfl))⟩
 ·rintro e W2 ⟨⟨v,rfl⟩,xs,hS,hi,hl,hd⟩;exact ⟨none,_,run_endLoop (P:=P) hl (by simp [mk]),hdone _ xs _ (ua3 _) hS (hI.putObj _ hi (by omega) hl rfl) ((ucc (by omega)).trans hd)⟩
end
end Go.Ab

namespace Go.Ab
open Go Go.RowKit
def zgs (w' w:World):Prop:=w'.heap=w.heap/\w'.os=w.os/\w'.tape=w.tape/\w'.output=w.output
structure ToldTwo (P:Program) (g:FuncId) (T:TypeId) (k:IntKind) (m:Nat):Prop where
 enter:∀ args w,(callFunc g args).run P w = .ok (.enter g args) w
 idle:∀ (p q:Addr) (w:World),CallsD P g #[.pointer (some p),.pointer (some q)] .returning w fun e u' w'=>(∃ v,e = .returned v)/\u' = .returning/\w'=w
 told:∀ (b1 b2:Nat) (t1 t2:TypeId) (o1 o2:Array Value) (n:Int) (w:World),b1≠b2->w.heap[b1]? = some (.cells o1 t1 (0,0))->o1.size=m->w.heap[b2]? = some (.cells o2 t2 (0,0))->o2.size=1 ->
  CallsD P g #[.pointer (some ⟨b1,0,none⟩),.pointer (some ⟨b2,0,none⟩)] (.panicking [{ v:=.iface T (.agg #[.int k n]),recovered:=false }]) w fun e u' w'=>
   (∃ v,e = .returned v)/\u' = .panicking [{ v:=.iface T (.agg #[.int k n]),recovered:=true }]/\zgs w' ((w.setRow b1 (Array.replicate m (.int .i64 0))).setRow b2 #[.int k n])
def qwe (m:Nat):List AC:=List.replicate m (.int .i64 0)
def zhr (T:TypeId) (k:IntKind) (m:Nat) (p:PV) (s:St):Option St:=
 match s.gs 0,s.gs 1 with
 |.c (.ptr i 0),.c (.ptr j 0)=>match s.mem i,s.mem j with
  |some (.box e cs),some (.box e2 [_])=>if p.ty=T+1000000/\p.k=k/\i≠j/\cs.length=m then some ⟨s.n,s.sl,upd (upd s.mem i (.box e (qwe m))) j (.box e2 [.int k p.n]),s.gs⟩ else none
  |_,_=>none
 |_,_=>none
def frT (P:Program) (T:TypeId) (k:IntKind) (m:Nat) (rv:List ResultVar) (rs:List Ty):Tr->Option (Fr (qi rs))
 |.leaf .ret s=>qa7 P rv rs s
 |.leaf .normal s=>qa7 P rv rs s
 |.leaf (.panic p) s=>match zhr T k m p s with
  |some s'=>match qa7 P rv rs s' with
   |some f=>some (.need (inR k p.n) f)
   |none=>none
  |none=>none
 |.leaf _ _=>none
 |.br b x y=>match frT P T k m rv rs x,frT P T k m rv rs y with
  |some x',some y'=>some (.br b x' y')
  |_,_=>none
 |.need p x=>match frT P T k m rv rs x with
  |some x'=>some (.need p x')
  |none=>none
 |.two p x y=>match frT P T k m rv rs x,frT P T k m rv rs y with
  |some x',some y'=>some (.need (p->x'.ok/\x'.get=y'.get) y')
  |_,_=>none
def zws:List Oper->Option (FuncId×Tmp×Tmp×Tmp)
 |[⟨some td,.makeFunc (.func f) first caps,_,_,_,none⟩,⟨none,.defer ⟨.value (.tmp td'),args,_⟩,_,_,_,none⟩]=>match first.toList,caps.toList,args.toList with
  |[],[.tmp ta,.tmp tb],[]=>if td'=td then some (f,td,ta,tb) else none
  |_,_,_=>none
 |_=>none
def zus (P:Program) (C:Cx) (run:St->Option Tr) (T:TypeId) (k:IntKind) (m:Nat) (fn:Func) (A:Code) (td ta tb:Tmp) (ps:List PT) (rs:List Ty) (xs:qn ps):Option (Fr (qi rs)):=
 if (fn.name == "runtime.NumGoroutine")=false/\ps.length<=fn.ntmps/\td<fn.ntmps then match ja P C 0 qq A 0 (qos fn.ntmps (qg2 ps xs)) with
  |some (.leaf .normal s1)=>match s1.sl ta,s1.sl tb with
   |.c (.ptr i 0),.c (.ptr j 0)=>if s1.n=fn.ntmps then match run (qid ⟨s1.n,qdj s1.sl (some td) .dead,s1.mem,fun t=>if t=0 then .c (.ptr i 0) else if t=1 then .c (.ptr j 0) else .dead⟩) with
    |some t=>frT P T k m fn.results.toList rs t
    |none=>none
    else none
   |_,_=>none
  |_=>none
 else none
section
variable {P:Program} {w w':World} {E:Env} {F F':Nat->Prop} {γ γ':Nat->Value}
theorem qnl {T:TypeId} {k:IntKind} {m:Nat} {rv:List ResultVar} {rs:List Ty}:{t:Tr} -> {f:Fr (qi rs)}->frT P T k m rv rs t=some f->f.ok->t.sat fun e s=>match e with
  |.ret=>∃ n,qa7 P rv rs s=some (Fr.needL n (.val f.get))/\qr n
  |.normal=>∃ n,qa7 P rv rs s=some (Fr.needL n (.val f.get))/\qr n
  |.panic p=>∃ s' n,zhr T k m p s=some s'/\inR k p.n/\qa7 P rv rs s'=some (Fr.needL n (.val f.get))/\qr n
  |_=>False
 |.leaf e s,f,h,hok=>by
  cases e with
  |exit i=>simp [frT] at h
  |val i=>simp [frT] at h
  |jump i=>simp [frT] at h
  |normal=>exact qkb h hok
  |ret=>exact qkb h hok
  |panic p=>
   simp only [frT] at h;split at h<;>try trivial
   rename_i s' hs';split at h<;>try trivial
   rename_i f' hf';cases h;obtain ⟨n,h1,h2⟩:=qkb hf' hok.2;exact ⟨s',n,hs',hok.1,h1,h2⟩
 |.br b x y,f,h,hok=>by
  simp only [frT] at h;split at h<;>try trivial
  rename_i x' y' hx hy;cases h;refine ⟨fun hb=>?_,fun hb=>?_⟩
  ·have:=qnl hx (hok.1 hb);simpa only [Fr.get,hb,if_true] using this
  ·have:=qnl hy (hok.2 hb);simpa only [Fr.get,hb,ubt,ub3] using this
 |.need p x,f,h,hok=>by
  simp only [frT] at h;split at h<;>try trivial
  rename_i x' hx;cases h;have:=qnl hx hok.2;exact ⟨hok.1,this⟩
 |.two p x y,f,h,hok=>by
  simp only [frT] at h;split at h<;>try trivial
  rename_i x' y' hx hy;cases h;have h2:=qnl hy hok.2;refine ⟨fun hp=>?_,h2⟩;have:=qnl hx (hok.1 hp).1
  rwa [(hok.1 hp).2] at this
theorem yc7 {s:St} {a:Act} (hi:InvG P E s a w [] F γ) (h:zgs w' w):InvG P E s a w' [] F γ:=by
 obtain ⟨h1,h2,h3,h4⟩:=h;have hh:∀ b:Nat,w'.heap[b]? = w.heap[b]? := fun b=>by rw [h1]
 have hs:Step E.B w F γ s.mem w' F γ s.mem:=⟨fun _ h=>h,fun b _=>hh b,fun _ _ h=>h,fun b _=>hh b,h2,h3,h4,by rw [h1]; exact ua3 _,fun b hb=>by rw [h1]; exact kj hi b hb,fun _ h=>.inl h⟩;refine ⟨hi.n,hi.df,?_,hi.mem.keep (fun _ h=>h) (fun b _=>hh b) (fun id o b ho he=>⟨hh b,(qgc (hi.mem.ob id o ho) he).2.1⟩),fun t=>(hi.sl t).mono hs.hF hs.hw hs.hR,hi.hg,fun t=>hs.repA (hi.gh t)⟩;obtain ⟨γ0,h0⟩:=hi.step;exact ⟨γ0,h0.trans hs⟩
theorem zf6 {w:World} {F:Nat->Prop} {R:Nat->Value->Prop}:(m:Nat) -> {g:Nat->Value->Prop}->(∀ j,j<m->g j (.int .i64 0))->qu P w F R (qwe m) g
 |0,_,_=>trivial
 |m+1,_,h=>⟨⟨.int .i64 0,h 0 (by omega),rfl,rfl,by decide,by decide⟩,zf6 m fun j hj=>h (j+1) (by omega)⟩
theorem zoi {old new:Array Value} (h:old.size=new.size):ym old 0 new.toList=new:=by
 apply ud8
 ·rw [qjp (by simp; omega)];exact h
 ·intro i h1 h2;simp only [ym,List.take_zero,uav,List.getElem_toArray];rw [List.getElem_append_left (by simpa using h2)];simp
theorem zzv {T:TypeId} {k:IntKind} {m:Nat} {p:PV} {s s':St} {a:Act} (hi:InvG P E s a w [] F γ) (h:zhr T k m p s=some s') (hr:inR k p.n) :
  p.ty=T+1000000/\p.k=k/\∃ b1 b2 t1 t2 o1 o2,E.G 0 = .pointer (some ⟨b1,0,none⟩)/\E.G 1 = .pointer (some ⟨b2,0,none⟩)/\b1≠b2/\w.heap[b1]? = some (.cells o1 t1 (0,0))/\o1.size=m/\w.heap[b2]? = some (.cells o2 t2 (0,0))/\o2.size=1 /\
   InvG P E s' a ((w.setRow b1 (Array.replicate m (.int .i64 0))).setRow b2 #[.int k p.n]) [] F γ:=by
 unfold zhr at h;split at h<;>try trivial
 rename_i i j hg0 hg1;split at h<;>try trivial
 rename_i e cs e2 c0 hM1 hM2;split at h<;>try trivial
 rename_i hp;cases h;obtain ⟨hp1,hp2,hij,hlen⟩:=hp;have h0:=hi.gh 0;rw [hg0] at h0;have h1:=hi.gh 1;rw [hg1] at h1;obtain ⟨b1,o1,e11,e12,e13,e14,e15,e16,e17⟩:=qi8 hi.mem hM1 h0.2;obtain ⟨b2,o2,e21,e22,e23,e24,e25,e26,e27⟩:=qi8 hi.mem hM2 h1.2;have hne:b1≠b2:=by
  rintro rfl;exact hi.mem.apart i j _ _ b1 hij hM1 hM2 (by rw [e11]; rfl) (by rw [e21]; rfl)
 have ho1:ym o1 0 (Array.replicate m (.int .i64 0):Array Value).toList=Array.replicate m (.int .i64 0):=zoi (by simp [e16,hlen]);obtain ⟨s1,s2⟩:=qix (off:=0) (cs':=qwe m) (vs:=(Array.replicate m (.int .i64 0):Array Value).toList) hi.mem (kj hi) hM1 e11 e13 e14 e15 (by simp [e16,hlen]) (by simp [qwe,e16,hlen]) (by
  rw [ho1];exact zf6 m fun j hj=>by simp [hj])
 rw [ho1] at s1 s2;have hM2':upd s.mem i (.box e (qwe m)) j=some (.box e2 [c0]):=(yp _ _ (Ne.symm hij)).trans hM2;obtain ⟨old,rfl⟩:=qqp (by simpa using e26);have hov:ym #[old] 0 [.int k p.n] = #[.int k p.n]:=by simp [ym]
 have hb2:(w.setRow b1 (Array.replicate m (.int .i64 0))).heap[b2]? = some (.cells #[old] e2 (0,0)):=(uaw w b1 b2 _ (Ne.symm hne)).trans e23;obtain ⟨s3,s4⟩:=qix (off:=0) (cs':=[.int k p.n]) (vs:=[.int k p.n]) s2 s1.bd hM2' e21 hb2 e24 e25 (by simp) rfl ⟨⟨.int k p.n,by rw [hov]; rfl,rfl,rfl,hr⟩,trivial⟩;rw [hov] at s3 s4;have hst:=s1.trans s3;refine ⟨hp1,hp2,b1,b2,e,e2,o1,#[old],e12,e22,hne,e13,e16.trans hlen,e23,rfl,⟨hi.n,hi.df,?_,s4,fun t=>(hi.sl t).mono hst.hF hst.hw hst.hR,hi.hg,fun t=>hst.repA (hi.gh t)⟩⟩;obtain ⟨γ0,h0⟩:=hi.step;exact ⟨γ0,h0.trans hst⟩
theorem ybw {C:Cx} (hC:CxOK P C) {run:St->Option Tr} {f g:FuncId} {T:TypeId} {k:IntKind} {m:Nat} {fn:Func} {A c:Code} {rid:Nat} {ops:Array Oper} {td ta tb:Tmp} {ps:List PT} {rs:List Ty} {fr:qn ps->Fr (qi rs)} (x0:qn ps)
  (hf:P.funcs[f]? = some fn) (hb:fn.body=some (.seq A (.seq (.region rid ops false) c))) (hd:zws ops.toList=some (g,td,ta,tb)) (hT:ToldTwo P g T k m) (hR:∀ E,qkz P E c run)
  (hrun:∀ xs,zus P C run T k m fn A td ta tb ps rs xs=some (fr xs)):qa P f ⟨ps,rs,fun xs=>(fr xs).get,fun xs=>[(fr xs).ok]⟩:=by
 have h0:=hrun x0
 unfold zus at h0
 split at h0<;>try (cases h0; done)
 rename_i hc
 refine ⟨enters hf hb hc.1,fun w F xs vs hbd hr hok=>calls_of_wp_defers hf hb ?_⟩
 have hr':=hrun xs
 unfold zus at hr'
 simp only [hc,and_self,if_true] at hr'
 split at hr'<;>try (cases hr'; done)
 rename_i s1 ht1
 split at hr'<;>try (cases hr'; done)
 rename_i i j hsl1 hsl2
 split at hr'<;>try (cases hr'; done)
 rename_i hsn
 split at hr'<;>try (cases hr'; done)
 rename_i t ht2
 have hlen:vs.length=ps.length:=qiv hr
 have hstart:=qi3 (D:=[]) (n:=fn.ntmps) hbd (fun R=>qex (R:=R) hr) (by have:=hc.2.1; omega)
 have hsz:(vs.toArray).size=vs.length:=by simp
 rw [hsz]
 refine wp_seq (wp_mono (yx hC A 0 (qe A 0) ht1 (Q:=fun e s=>e = .normal/\s=s1) ⟨rfl,rfl⟩ hstart) ?_)
 rintro e a1 w1 ⟨xe,s,rfl,⟨F1,γ1,hi⟩,rfl,rfl⟩
 have hva:=qkl hi ta
 rw [hsl1] at hva
 obtain ⟨_,b1,hR1,hva⟩:=hva
 have hvb:=qkl hi tb
 rw [hsl2] at hvb
 obtain ⟨_,b2,hR2,hvb⟩:=hvb
 refine wp_seq (ugq ?_)
 obtain ⟨ol⟩:=ops
 simp only at hd
 unfold zws at hd
 split at hd<;>try (cases hd; done)
 rename_i td0 f0 first caps ty pos aft td1 args ats ty' pos' aft'
 split at hd<;>try (cases hd; done)
 rename_i ta0 tb0 hfirst hcaps hargs
 split at hd<;>try (cases hd; done)
 rename_i htd
 subst htd
 simp only [ua0,ua9] at hd
 obtain ⟨rfl,rfl,rfl,rfl⟩:=hd
 have h1':first = #[]:=by
  obtain ⟨l⟩:=first
  simp only at hfirst
  rw [hfirst]
 have h2':caps = #[.tmp ta0,.tmp tb0]:=by
  obtain ⟨l⟩:=caps
  simp only at hcaps
  rw [hcaps]
 have h3':args = #[]:=by
  obtain ⟨l⟩:=args
  simp only at hargs
  rw [hargs]
 subst h1'
 subst h2'
 subst h3'
 have hev1:a1.eval (.tmp ta0) = .pointer (some ⟨b1,0,none⟩):=hva
 have hev2:a1.eval (.tmp tb0) = .pointer (some ⟨b2,0,none⟩):=hvb
 let cl:Value:=.func (.func f0) #[] #[.pointer (some ⟨b1,0,none⟩),.pointer (some ⟨b2,0,none⟩)]
 let o0:Oper:=⟨some td1,.makeFunc (.func f0) #[] #[.tmp ta0,.tmp tb0],ty,pos,aft,none⟩
 let o1:Oper:=⟨none,.defer ⟨.value (.tmp td1),#[],ats⟩,ty',pos',aft',none⟩
 have hx0:(execOp a1.eval o0).run P w1 = .ok (.value cl) w1:=by
  have hmf:∀ (fn:Fn) (first cap:Array Value) (w:World),(Instr.makeFunc fn first cap).run P w = .ok (.func fn first cap) w:=fun _ _ _ _=>rfl
  simp [execOp,o0,hev1,hev2,hmf,cl]
 have hput:(a1.put (some td1) cl).eval (.tmp td1)=cl:=by
  show (a1.put (some td1) cl).tmps.getD td1 undef=cl
  rw [qtd _ _ _ _ (fun x hx=>by cases hx; rw [hi.n,hsn]; exact hc.2.2),if_pos rfl]
 have hx1:(execOp (a1.put (some td1) cl).eval o1).run P w1 = .ok (.defer { target:=.fn (.func f0) #[.pointer (some ⟨b1,0,none⟩),.pointer (some ⟨b2,0,none⟩)],args:=#[] }) w1:=by
  simp [execOp,resolve,o1,hput,cl,Deferred.ofValue]
 have hrange:List.range ((#[o0,o1]:Array Oper)).size=[0,1]:=rfl
 show wpOps P #[o0,o1] _ (List.range ((#[o0,o1]:Array Oper)).size) a1 w1
 rw [hrange]
 unfold wpOps
 simp only [ugn,ubn]
 rw [if_pos (show Region.wanted o0 (yielded #[o0,o1] a1.tmps)=true from rfl)]
 refine .inl ?_
 unfold Oper.wp
 rw [hx0,Oper.upon_value]
 unfold wpOps
 simp only [ugn,udy,ubn]
 rw [if_pos (show Region.wanted o1 (yielded #[o0,o1] (a1.put o0.dst cl).tmps)=true from rfl)]
 refine .inl ?_
 unfold Oper.wp
 rw [show o0.dst=some td1 from rfl,hx1,Oper.upon_defer]
 simp only [wpOps]
 have hip:=qit (qfn (d:=some td1) (v:=.dead) (u:=cl) (wr:=[]) hi (fun x hx=>by cases hx; exact ⟨by rw [hsn]; exact hc.2.2,by simp⟩) (Step.refl (kj hi)) hi.mem trivial (fun _ _ _ h=>by cases h))
 show Code.wp P c (bodyPostD P fn (qd1 w F rs (fr xs).get)) { (a1.put (some td1) cl) with defers:={ target:=.fn (.func f0) #[.pointer (some ⟨b1,0,none⟩),.pointer (some ⟨b2,0,none⟩)],args:=#[] }::(a1.put (some td1) cl).defers } w1
 let D:List Deferred:=[{ target:=.fn (.func f0) #[.pointer (some ⟨b1,0,none⟩),.pointer (some ⟨b2,0,none⟩)],args:=#[] }]
 let E2:Env:=⟨w,F,fun t=>if t=0 then .pointer (some ⟨b1,0,none⟩) else .pointer (some ⟨b2,0,none⟩),D,w.heap.size,ua3 _⟩
 have hi':InvG P E2 (qid ⟨s.n,qdj s.sl (some td1) .dead,s.mem,fun t=>if t=0 then .c (.ptr i 0) else if t=1 then .c (.ptr j 0) else .dead⟩) { (a1.put (some td1) cl) with defers:={ target:=.fn (.func f0) #[.pointer (some ⟨b1,0,none⟩),.pointer (some ⟨b2,0,none⟩)],args:=#[] }::(a1.put (some td1) cl).defers } w1 [] F1 γ1:=by
  refine ⟨hip.n,?_,hip.step,hip.mem,hip.sl,hip.hg,fun t=>?_⟩
  ·show _::(a1.put (some td1) cl).defers=D
   rw [show (a1.put (some td1) cl).defers=a1.defers from rfl,hi.df]
  ·show qz P w1 F1 (qp s.mem γ1) (if t=0 then .c (.ptr i 0) else if t=1 then .c (.ptr j 0) else .dead) (if t=0 then .pointer (some ⟨b1,0,none⟩) else .pointer (some ⟨b2,0,none⟩))
   by_cases ht0:t=0
   ·rw [if_pos ht0,if_pos ht0]
    exact ⟨rfl,b1,hR1,rfl⟩
   ·rw [if_neg ht0,if_neg ht0]
    by_cases ht1':t=1
    ·rw [if_pos ht1']
     exact ⟨rfl,b2,hR2,rfl⟩
    ·rw [if_neg ht1']
     trivial
 have hwp:=hR E2 _ _ ht2 _ (qnl hr' hok) _ _ ⟨F1,γ1,hi'⟩
 refine wp_mono hwp ?_
 rintro e a2 w2 ⟨xe,s2,rfl,⟨F2,γ2,hi2⟩,hx⟩
 have hinv:∀ W,(invoke (.fn (.func f0) #[.pointer (some ⟨b1,0,none⟩),.pointer (some ⟨b2,0,none⟩)]) #[]).run P W = .ok (.enter f0 #[.pointer (some ⟨b1,0,none⟩),.pointer (some ⟨b2,0,none⟩)]) W:=fun W=>by
  have:=hT.enter #[.pointer (some ⟨b1,0,none⟩),.pointer (some ⟨b2,0,none⟩)] W
  simp [invoke,this]
 have hdf:a2.defers=[{ target:=.fn (.func f0) #[.pointer (some ⟨b1,0,none⟩),.pointer (some ⟨b2,0,none⟩)],args:=#[] }]:=hi2.df
 have hfin:(∃ n,qa7 P fn.results.toList rs s2=some (Fr.needL n (.val (fr xs).get))/\qr n)->Leaves P fn a2.tmps (qd1 w F rs (fr xs).get) a2.defers .returning w2:=by
  rintro ⟨n,hend,hn⟩
  rw [hdf]
  refine udo (by simp) (hinv w2) ((hT.idle _ _ w2).mono ?_)
  rintro e u' w' ⟨⟨v,rfl⟩,rfl,rfl⟩
  exact qin hi2 rfl hend hn
 cases xe with
 |normal=>exact hfin hx
 |ret=>exact hfin hx
 |exit _=>exact hx.elim
 |val _=>exact hx.elim
 |jump _=>exact hx.elim
 |panic p=>
  obtain ⟨s',n,hs',hin,hend,hn⟩:=hx
  obtain ⟨hty,hk,c1,c2,t1,t2,o1,o2,hG1,hG2,hne,hh1,hs1,hh2,hs2,hi3⟩:=zzv hi2 hs' hin
  have hG1':(Value.pointer (some ⟨b1,0,none⟩)) = .pointer (some ⟨c1,0,none⟩):=hG1
  have hG2':(Value.pointer (some ⟨b2,0,none⟩)) = .pointer (some ⟨c2,0,none⟩):=hG2
  simp only [ucx,ua0,ue0,ud7] at hG1' hG2'
  subst hG1'
  subst hG2'
  show Leaves P fn a2.tmps _ a2.defers (.panicking [{ v:=p.val,recovered:=false }]) w2
  rw [PV.val_high hty,hdf,hk]
  refine udo (by simp) (hinv w2) ((hT.told b1 b2 t1 t2 o1 o2 p.n w2 hne hh1 hs1 hh2 hs2).mono ?_)
  rintro e u' w' ⟨⟨v,rfl⟩,rfl,hsw⟩
  exact qin (yc7 hi3 hsw) rfl hend hn
end
end Go.Ab

namespace Go.Ab
open Go Go.RowKit
section
variable {P:Program} {w w':World} {F:Nat->Prop}
theorem yxd (w:World) (dT sT ty elem:TypeId) (k g o dLen dCap:Nat) (a:Addr) (sLen sCap:Nat) (cs:List Value) (cur:Array Value) (t:TypeId)
  (hu:P.underlying dT=some (.slice elem)) (hs:(P.info? elem).map (·.size)=some k) (hn:cs.length=Nat.min sLen dLen*k)
  (hsrc:∀ j v,cs[j]? = some v->w.cell? (a.add j)=some v) (hg:w.heap[g]? = some (.cells cur t (0,0))) (hfit:o+cs.length<=cur.size) (h1:∀ v∈cs,v.oneCell'=true) :
  (Builtin.copy_ #[dT,sT] ty #[.slice (some ⟨g,o,none⟩) dLen dCap,.slice (some a) sLen sCap]).run P w = .ok (goInt (Nat.min sLen dLen)) (w.setRow g (cur.toList.take o++cs++cur.toList.drop (o+cs.length)).toArray):=by
 have hl:=run_loadCells_list (P:=P) w a cs hsrc;have hst:=run_storeCells_at P g o t cs 0 cur w hg (by simpa using hfit) h1;simp only [udl] at hst;cases hq:P.info? elem with
 |none=>simp [hq] at hs
 |some i=>
  have hi:i.size=k:=by simpa [hq] using hs
  simp [Builtin.copy_,uah hu,Builtin.lenOf,Builtin.firstCells,sizeOf,typeInfo,hq,hi,← hn,hl,hst]
theorem yev {α:Type} (l m:List α) (p q:Nat) (h:p<=q) (hq:q<=l.length):(l.take q++m).take p=l.take p:=by
 rw [List.take_append_of_le_length (by simp; omega),uf2,ubo h]
theorem qva {α:Type} (cur xs news:List α) (q p k:Nat) (hx:cur.take q=xs) (hl:q+k<=cur.length) (hp:p<=q) (hn:news.length=k) (C1 C2:List α)
  (h1:C1=cur.take (p+k)++xs.drop p++cur.drop (p+k+(xs.drop p).length)) (h2:C2=C1.take p++news++C1.drop (p+news.length)) :
  C1.length=cur.length/\C2.length=cur.length/\C2.take (q+k)=xs.take p++news++xs.drop p:=by
 have hxl:xs.length=q:=by rw [← hx,uae]; omega
 have hd:(xs.drop p).length=q-p:=by rw [ubl,hxl]
 have hc1:C1.length=cur.length:=by rw [h1]; simp only [uas,uae,ubl,hxl]; omega
 have e1:C1.take p=xs.take p:=by
  rw [h1,ubf,yev cur _ p (p+k) (by omega) (by omega),← hx,uf2,ubo hp]
 have e2:C1.drop (p+k)=xs.drop p++cur.drop (p+k+(xs.drop p).length):=by
  rw [h1,ubf];exact ugc (by rw [uae]; omega)
 rw [hn,e1,e2] at h2;refine ⟨hc1,?_,?_⟩
 ·rw [h2]; simp only [uas,uae,ubl,hxl,hn]; omega
 ·rw [h2,← ubf];exact udr (by simp only [uas,uae,ubl,hxl,hn]; omega)
theorem qy7 {α:Type} (row xs news:List α) (q p k:Nat) (hxl:xs.length=q) (hp:p<=q) (hx:row.take p=xs.take p) (hl:q+k<=row.length) (hn:news.length=k) (C1 C2:List α)
  (h1:C1=row.take p++news++row.drop (p+news.length)) (h2:C2=C1.take (p+k)++xs.drop p++C1.drop (p+k+(xs.drop p).length)) :
  C1.length=row.length/\C2.length=row.length/\C2.take (q+k)=xs.take p++news++xs.drop p:=by
 have hd:(xs.drop p).length=q-p:=by rw [ubl,hxl]
 have hc1:C1.length=row.length:=by rw [h1]; simp only [uas,uae,ubl,hn]; omega
 have e1:C1.take (p+k)=xs.take p++news:=by
  rw [h1,hx];exact udr (by simp only [uas,uae,hxl,hn]; omega)
 have hc2:C2.length=row.length:=by rw [h2]; simp only [uas,uae,ubl,hc1,hxl]; omega
 refine ⟨hc1,hc2,?_⟩;rw [h2,e1];exact udr (by simp only [uas,uae,ubl,hxl,hn]; omega)
end
theorem zca {P:Program} (w:World) {o:Oper} {a:Act} {K:Act->World->Prop} {Q:Exit->Act->World->Prop} (d s:Operand) (t t':TypeId)
  (ho:o.op = .call { callee:=.builtin .copy,args:=#[d,s],argTypes:=#[t,t'] }) (v u:Value) (hd:a.eval d=v) (hs:a.eval s=u) {v':Value} {w':World}
  (hr:(Builtin.copy_ #[t,t'] o.type #[v,u]).run P w = .ok v' w') (h:K (a.put o.dst v') w'):o.wp P a w K Q:=by
 unfold Oper.wp execOp;simp only [ho,resolve,invoke,builtin,Sem.run_bind,Sem.run_pure,Result.andThen_ok,List.map_toArray,List.map_cons,List.map_nil,hd,hs,hr];exact h
theorem wx {P:Program} (w:World) {ops:Array Oper} {rest:List Oper} {o:Oper} {a:Act} {Q:Exit->Act->World->Prop} (hgd:o.guard=none) (d s:Operand) (t t':TypeId)
  (ho:o.op = .call { callee:=.builtin .copy,args:=#[d,s],argTypes:=#[t,t'] }) (v u:Value) (hd:a.eval d=v) (hs:a.eval s=u) {v':Value} {w':World}
  (hr:(Builtin.copy_ #[t,t'] o.type #[v,u]).run P w = .ok v' w') (h:wpList P ops Q rest (a.put o.dst v') w'):wpList P ops Q (o::rest) a w:=
 wpList_plain hgd fun _ hK=>zca w d s t t' ho v u hd hs hr (hK _ _ h)
theorem qet {P:Program} {ops:Array Oper} {o:Oper} {a:Act} {w:World} {K:Act->World->Prop} {Q:Exit->Act->World->Prop} {E:Prop}
  (hg:o.guard=none) (d x:Operand) (dT sT:TypeId) (hop:o.op=Op.call { callee:=Callee.builtin Builtin.copy,args:=#[d,x],argTypes:=#[dT,sT] })
  (v u:Value) (hd:a.eval d=v) (hx:a.eval x=u) {v':Value} {w':World} (hr:(Builtin.copy_ #[dT,sT] o.type #[v,u]).run P w = .ok v' w') (hK:K (a.put o.dst v') w') :
  if Region.wanted o (yielded ops a.tmps)=true then Oper.wp P o a w K Q else E:=by
 have hw:Region.wanted o (yielded ops a.tmps)=true:=by simp [Region.wanted,hg]
 rw [if_pos hw];exact zca w d x dT sT hop v u hd hx hr hK
theorem wl {w:World} {g q:Nat} {cur:Array Value} {t:TypeId} {xs:List Value} (hg:w.heap[g]? = some (.cells cur t (0,0))) (ht:cur.toList.take q=xs) {j:Nat} {v:Value} (hj:xs[j]? = some v):w.cell? ⟨g,j,none⟩=some v:=by
 rw [cell_of_row w g j cur t (0,0) hg];rw [← ht,uap] at hj;split at hj
 ·simpa using hj
 ·cases hj
end Go.Ab
namespace Go.Proofs.YtgieagiaagoogaaGreat
open Go Go.Ab Go.RowKit Go.Proofs Go.Shelf Go.Lib
set_option maxRecDepth 100000 in
theorem zk7:(Tryz.prog.info? 56).map (fun i=>(i.zero,i.size,i.bytes))=some (some (.agg #[.int .i64 0,.int .i64 0,.int .i64 0,.int .i64 0,.int .i64 0,.int .i64 0,.int .i64 0,.int .i64 0,.slice none 0 0,.slice none 0 0,.int .i64 0]),11,120):=by kernel_rfl
set_option maxHeartbeats 4000000 in
set_option maxRecDepth 100000 in
theorem yc1 (w:World) (B n:Nat) (s v:Value) (xs news:List Value) (hB:B<=w.heap.size) (hs:w.ownsRow B 56 11 s n xs) (hv:w.ownsRow B 56 11 v 1 news) (h1:∀ u∈news,u.oneCell'=true) (h63:n+1<=maxLen) (hby:(n+1)*120<=140737488355328) :
  Calls Tryz.prog 261 #[s,.int .i64 n,v] w fun en w'=>∃ v',en = .returned v'/\w.grownBy w' s.ownBlock/\w'.ownsRow B 56 11 v' (n+1) (xs++news)/\(v'.ownBlock=s.ownBlock∨v'.ownBlock=some w.heap.size):=by
 obtain ⟨i0,hi0,hz0,hz1,hz2⟩:=ucq zk7;obtain ⟨vb,vc,vcur,rfl,hvb,hvg,hv1,hv2,hv3,hv4⟩:∃ g cap cur,v = .slice (some ⟨g,0,none⟩) 1 cap/\B<=g/\w.heap[g]? = some (.cells cur 56 (0,0))/\1<=cap/\cap<=maxLen/\cur.size=cap*11/\cur.toList.take (1*11)=news:=by
  rcases hv.2 with ⟨_,h0⟩|h'
  ·exact absurd h0 (by omega)
  ·exact h'
 obtain ⟨v',w',hr,e2,e3,e4⟩:=qcp (P:=Tryz.prog) (w:=w) (B:=B) 25 25 56 i0 _ 11 Tryz.underlying25 hi0 hz0 hz1 rfl (by decide) s n xs hs (some ⟨vb,0,none⟩) 1 vc news (fun h=>by cases h) hv.1 (fun ad e=>by cases e; exact hv.cells rfl) h1 h63 (by rw [hz2]; exact hby) hB;have hr':∀ ty,(Builtin.append_ #[25,25] ty #[s,.slice (some ⟨vb,0,none⟩) 1 vc]).run Tryz.prog w = .ok v' w':=fun ty=>hr;have hn:(n:Int)<=9223372036854775807:=by unfold maxLen at h63; omega
 clear hr
 go_enter ufm,Tryz.ntmps261
 rcases hs.2 with ⟨rfl,rfl⟩|⟨g,cap,cur,rfl,hbg,hg,hnc,hcm,hcs,htake⟩
 ·go_wp2_with (at_builtin; refine uce _ rfl _ _ _ _ rfl _ _ rfl rfl _ _ (hr' _) ?_)
  go_ret
  exact ⟨_,rfl,e3,e2,e4⟩
 ·go_wp2_with (at_builtin; refine uce _ rfl _ _ _ _ rfl _ _ rfl rfl _ _ (hr' _) ?_)
  all_goals (go_ret; exact ⟨_,rfl,e3,e2,e4⟩)
set_option maxHeartbeats 4000000 in
set_option maxRecDepth 100000 in
theorem zth (w:World) (n i g cap vb vc:Nat) (cur:Array Value) (xs news:List Value) (hi:i<n) (hg:w.heap[g]? = some (.cells cur 56 (0,0))) (hcs:cur.size=cap*11) (hroom:n+1<=cap) (hcm:cap<=maxLen) (htake:cur.toList.take (n*11)=xs)
  (vcur:Array Value) (hvg:w.heap[vb]? = some (.cells vcur 56 (0,0))) (hne:vb≠g) (hnl:news.length=11) (hvt:vcur.toList.take 11=news) (hvc:1<=vc) (hvs:vcur.size=vc*11) (h1x:∀ u∈xs,u.oneCell'=true) (h1:∀ u∈news,u.oneCell'=true) :
  Calls Tryz.prog 261 #[.slice (some ⟨g,0,none⟩) n cap,.int .i64 i,.slice (some ⟨vb,0,none⟩) 1 vc] w fun en w'=>∃ cur',en = .returned (.slice (some ⟨g,0,none⟩) (n+1) cap)/\w'=w.drew.setRow g cur'/\cur'.size=cur.size/\cur'.toList.take ((n+1)*11)=xs.take (i*11)++news++xs.drop (i*11):=by
 have hc63:cap<=9223372036854775807:=by unfold maxLen at hcm; omega
 have hz2:¬ ((i:Int)=(n:Int)):=by omega
 have hw1:IntKind.i64.wrap ((i:Int)+(1:Int))=(i:Int)+(1:Int):=by rw [ub0]; omega
 have hb1:(0:Int)<=(i:Int)+(1:Int):=by omega
 have htn:((i:Int)+(1:Int)).toNat=i+1:=by omega
 have hin:i<=n:=by omega
 have hb2:¬ (cap=i+1):=by omega
 have hb3:(i:Int)<=(n:Int)+(1:Int):=by omega
 have hb4:¬ (cap=i):=by omega
 have hov:∀ lb cb,(callFunc 263 #[.slice (some ⟨vb,0,none⟩) 1 vc,.slice (some ⟨g,(i+1)*11,none⟩) lb cb]).run Tryz.prog w = .ok (.value (.bool false)) w:=fun lb cb=>by
  rw [ugh Tryz.func263 (by kernel_rfl) (by kernel_rfl) (by kernel_rfl) (e:=Extern.SlicesOverlaps.overlaps #[25,25] #[4]) (by kernel_rfl),
   ugi w 25 4 56 udf 11 (fun w=>by kernel_rfl) ⟨vb,0,none⟩ ⟨g,(i+1)*11,none⟩ 1 vc lb cb hne 56 56 vcur.size cur.size (by simp [World.shape?,hvg]) (by simp [World.shape?,hg]) (by omega) (by simp [World.frozen?,hvg]) (by simp [World.frozen?,hvg])]
  rfl
 have hsz:(Tryz.prog.info? 56).map (·.size)=some 11:=by kernel_rfl
 have hxl:xs.length=n*11:=by rw [← htake,uae,uad]; omega
 have hdl:(xs.drop (i*11)).length=(n-i)*11:=by rw [ubl,hxl]; omega
 obtain ⟨C1,hC1⟩:∃ C1:Array Value,C1=(cur.toList.take ((i+1)*11)++xs.drop (i*11)++cur.toList.drop ((i+1)*11+(xs.drop (i*11)).length)).toArray:=⟨_,rfl⟩;obtain ⟨C2,hC2⟩:∃ C2:Array Value,C2=(C1.toList.take (i*11)++news++C1.toList.drop (i*11+news.length)).toArray:=⟨_,rfl⟩;obtain ⟨k1,k2,k3⟩:=qva cur.toList xs news (n*11) (i*11) 11 htake (by simp only [uad]; omega) (by omega) hnl C1.toList C2.toList (by rw [hC1]; simp only [show i*11+11=(i+1)*11 by omega]) (by rw [hC2]);have hcp1:∀ ty dc sc,(Builtin.copy_ #[25,25] ty #[.slice (some ⟨g,(i+1)*11,none⟩) (n-i) dc,.slice (some ⟨g,i*11,none⟩) (n+1-i) sc]).run Tryz.prog w.drew = .ok (goInt (Nat.min (n+1-i) (n-i))) (w.drew.setRow g C1):=fun ty dc sc=>by
  rw [hC1];exact yxd w.drew _ _ ty 56 11 g ((i+1)*11) (n-i) dc ⟨g,i*11,none⟩ (n+1-i) sc (xs.drop (i*11)) cur 56 udf hsz (by rw [hdl,show Nat.min (n+1-i) (n-i)=n-i from ugj (by omega)])
   (fun j v hj=>by rw [uc1]; exact wl (w:=w) hg htake (by rwa [ubd] at hj)) hg (by rw [hdl]; omega) (fun v hv=>h1x v (ucm hv))
 have hcp2:∀ ty dc,(Builtin.copy_ #[25,25] ty #[.slice (some ⟨g,i*11,none⟩) (n+1-i) dc,.slice (some ⟨vb,0,none⟩) 1 vc]).run Tryz.prog (w.drew.setRow g C1) = .ok (goInt (Nat.min 1 (n+1-i))) ((w.drew.setRow g C1).setRow g C2):=fun ty dc=>by
  rw [hC2];exact yxd (w.drew.setRow g C1) _ _ ty 56 11 g (i*11) (n+1-i) dc ⟨vb,0,none⟩ 1 vc news C1 56 udf hsz (by rw [hnl,show Nat.min 1 (n+1-i)=1 from ubo (by omega)])
   (fun j v hj=>by
    rw [uc1,uai];exact wl (q:=11) ((uaw w.drew g vb C1 hne).trans hvg) hvt hj) (uba w.drew g cur C1 _ _ hg) (by rw [hnl,← uad,k1,uad]; omega) h1
 rw [ugk] at hcp2;have h1u:=h1;clear hC1 hC2
 go_enter ufm,Tryz.ntmps261
 go_wp2_with (simp only [hov])
 go_region_law (refine qet rfl _ _ 25 25 rfl _ _ (by simp [Act.eval,Act.put]) (by simp [Act.eval,Act.put]) (hcp1 _ _ _) ?_)
 go_wp2_with (at_builtin; refine wx _ rfl _ _ 25 25 rfl _ _ rfl rfl (hcp2 _ _) ?_)
 go_ret
 exact ⟨C2,rfl,rfl,by rw [← uad,k2,uad],by rw [show (n+1)*11=n*11+11 by omega]; exact k3⟩
set_option maxHeartbeats 4000000 in
set_option maxRecDepth 100000 in
theorem zxs (w:World) (n i g cap vb vc:Nat) (cur:Array Value) (xs news:List Value) (hi:i<n) (hg:w.heap[g]? = some (.cells cur 56 (0,0))) (hcs:cur.size=cap*11) (hnc:n<=cap) (hroom:cap<n+1) (htake:cur.toList.take (n*11)=xs)
  (vcur:Array Value) (hvg:w.heap[vb]? = some (.cells vcur 56 (0,0))) (hnl:news.length=11) (hvt:vcur.toList.take 11=news) (h1x:∀ u∈xs,u.oneCell'=true) (h1:∀ u∈news,u.oneCell'=true) (h63:n+1<=maxLen) (hby:(n+1)*120<=140737488355328) :
  Calls Tryz.prog 261 #[.slice (some ⟨g,0,none⟩) n cap,.int .i64 i,.slice (some ⟨vb,0,none⟩) 1 vc] w fun en w'=>∃ G C,en = .returned (.slice (some ⟨w.heap.size,0,none⟩) (n+1) G)/\w.grownBy w' none/\w'.heap[w.heap.size]? = some (.cells C 56 (0,0))/\n+1<=G/\G<=maxLen/\C.size=G*11/\C.toList.take ((n+1)*11)=xs.take (i*11)++news++xs.drop (i*11):=by
 have h63':n+1<=9223372036854775807:=by unfold maxLen at h63; omega
 obtain ⟨i0,hi0,hz0,hz1,hz2⟩:=ucq zk7;have hsz:(Tryz.prog.info? 56).map (·.size)=some 11:=by kernel_rfl
 have hxl:xs.length=n*11:=by rw [← htake,uae,uad]; omega
 have hdl:(xs.drop (i*11)).length=(n-i)*11:=by rw [ubl,hxl]; omega
 have hgw:g<w.heap.size:=(uaa.1 hg).1;have hvw:vb<w.heap.size:=(uaa.1 hvg).1;have hkk:(n:Int)+1-(i:Int)=((n+1-i:Nat):Int):=by omega
 have hik:i+(n+1-i)=n+1:=by omega
 have hold:(Builtin.firstCells i0.size i (.slice (some ⟨g,0,none⟩) i cap)).run Tryz.prog w.drew = .ok (xs.take (i*11)).toArray w.drew:=by
  rw [hz1];exact ugl w.drew 11 i ⟨g,0,none⟩ i cap (xs.take (i*11)) (by rw [uae]; omega) (fun j v hj=>by
   rw [uc1,uai];rw [uap] at hj;split at hj
   ·exact wl (w:=w) hg htake hj
   ·cases hj)
 obtain ⟨G,hG⟩:∃ G,G=grownCap w (n+1) cap 56:=⟨_,rfl⟩;have hGn:n+1<=G:=by rw [hG]; exact uef w _ _ _
 have hGm:G<=maxLen:=by rw [hG]; exact ueg w _ _ _ h63
 obtain ⟨Z,hZ⟩:∃ Z:Array Value,Z=(Value.agg #[.int .i64 0,.int .i64 0,.int .i64 0,.int .i64 0,.int .i64 0,.int .i64 0,.int .i64 0,.int .i64 0,.slice none 0 0,.slice none 0 0,.int .i64 0]).cells:=⟨_,rfl⟩;have hZ9:Z.size=11:=by rw [hZ]; rfl
 obtain ⟨ROW,hROW⟩:∃ ROW:Array Value,ROW=(xs.take (i*11)).toArray++Builtin.zeroCells Z (n+1-i)++Builtin.zeroCells Z (G-(n+1)):=⟨_,rfl⟩;have hrz:∀ ty,(Builtin.append_ #[25,3] ty #[.slice (some ⟨g,0,none⟩) i cap,.int .i64 ((n:Int)+1-(i:Int))]).run Tryz.prog w =
   .ok (.slice (some ⟨w.heap.size,0,none⟩) (n+1) G) (w.drew.alloc (.cells ROW 56)):=fun ty=>by
  have h:=ugm w 25 3 ty 56 i0 _ .i64 .i64 udf Tryz.underlying3 hi0 hz0 (some ⟨g,0,none⟩) i cap (xs.take (i*11)) hold (n+1-i) (by omega) (by omega) (by omega) (by omega) (by rw [hz2]; omega) (by rw [hz2,hik]; exact uex hroom hby);rw [hik,← hG,← hZ,← hROW] at h;rw [hkk];exact h
 have hRs:ROW.size=G*11:=by
  rw [hROW];simp only [udz,ub5,ueh,hZ9,uae,hxl];omega
 have hRt:ROW.toList.take (i*11)=xs.take (i*11):=by
  rw [hROW,udk,udk,ubf];exact udr (by rw [uae]; omega)
 obtain ⟨C1,hC1⟩:∃ C1:Array Value,C1=(ROW.toList.take (i*11)++news++ROW.toList.drop (i*11+news.length)).toArray:=⟨_,rfl⟩;obtain ⟨C2,hC2⟩:∃ C2:Array Value,C2=(C1.toList.take ((i+1)*11)++xs.drop (i*11)++C1.toList.drop ((i+1)*11+(xs.drop (i*11)).length)).toArray:=⟨_,rfl⟩;obtain ⟨k1,k2,k3⟩:=qy7 ROW.toList xs news (n*11) (i*11) 11 hxl (by omega) hRt (by rw [uad]; omega) hnl C1.toList C2.toList (by rw [hC1]) (by rw [hC2]; simp only [show i*11+11=(i+1)*11 by omega]);have hnew:(w.drew.alloc (.cells ROW 56)).heap[w.heap.size]? = some (.cells ROW 56 (0,0)):=ud6 w.drew _;have hcpA:∀ ty dc,(Builtin.copy_ #[25,25] ty #[.slice (some ⟨w.heap.size,i*11,none⟩) (n+1-i) dc,.slice (some ⟨vb,0,none⟩) 1 vc]).run Tryz.prog (w.alloc (.cells ROW 56)).drew = .ok (goInt (Nat.min 1 (n+1-i))) ((w.alloc (.cells ROW 56)).drew.setRow w.heap.size C1):=fun ty dc=>by
  rw [hC1];exact yxd _ _ _ ty 56 11 w.heap.size (i*11) (n+1-i) dc ⟨vb,0,none⟩ 1 vc news ROW 56 udf hsz (by rw [hnl,show Nat.min 1 (n+1-i)=1 from ubo (by omega)])
   (fun j v hj=>by
    rw [uc1,uai];exact wl (q:=11) ((yh w.drew _ vb hvw).trans hvg) hvt hj) hnew (by omega) h1
 have hcpB:∀ ty dc sc,(Builtin.copy_ #[25,25] ty #[.slice (some ⟨w.heap.size,(i+1)*11,none⟩) (n-i) dc,.slice (some ⟨g,i*11,none⟩) (n-i) sc]).run Tryz.prog ((w.alloc (.cells ROW 56)).drew.setRow w.heap.size C1).drew = .ok (goInt (Nat.min (n-i) (n-i))) (((w.alloc (.cells ROW 56)).drew.setRow w.heap.size C1).drew.setRow w.heap.size C2):=fun ty dc sc=>by
  rw [hC2];exact yxd _ _ _ ty 56 11 w.heap.size ((i+1)*11) (n-i) dc ⟨g,i*11,none⟩ (n-i) sc (xs.drop (i*11)) C1 56 udf hsz (by rw [hdl,show Nat.min (n-i) (n-i)=n-i from uf1 _])
   (fun j v hj=>by
    rw [uc1];exact wl (q:=n*11) (((uaw (w.alloc (.cells ROW 56)).drew w.heap.size g C1 (by omega)).trans (yh w.drew _ g hgw)).trans hg) htake (by rwa [ubd] at hj))
   (uba (w.alloc (.cells ROW 56)).drew w.heap.size ROW C1 _ _ hnew) (by rw [hdl,← uad,k1,uad]; omega) (fun v hv=>h1x v (ucm hv))
 have hz2:¬ ((i:Int)=(n:Int)):=by omega
 have hz3:(cap:Int)<(n:Int)+(1:Int):=by omega
 have hGi:¬ (G=i):=by omega
 have hGim:¬ (G=i+1):=by omega
 have hci:¬ (cap=i):=by omega
 have hw1:IntKind.i64.wrap ((i:Int)+(1:Int))=(i:Int)+(1:Int):=by rw [ub0]; omega
 have hb1:(0:Int)<=(i:Int)+(1:Int):=by omega
 have hin:i<=n:=by omega
 have htn:((i:Int)+(1:Int)).toNat=i+1:=by omega
 have hb3:(i:Int)<=(n:Int):=by omega
 have hG63:G<=9223372036854775807:=by unfold maxLen at hGm; omega
 clear hkk hik hold hROW hC1 hC2 hG hRt hZ
 go_enter ufm,Tryz.ntmps261
 go_wp2_with (first
  |(at_builtin; refine uce _ rfl _ _ _ _ rfl _ _ rfl rfl _ _ (hrz _) ?_)
  |(at_builtin; refine wx _ rfl _ _ 25 25 rfl _ _ rfl rfl (hcpA _ _) ?_)
  |(at_builtin; refine wx _ rfl _ _ 25 25 rfl _ _ rfl rfl (hcpB _ _ _) ?_))
 go_region_law (refine qet rfl _ _ 25 25 rfl _ _ (by simp [Act.eval,Act.put]) (by simp [Act.eval,Act.put]) (hcpB _ _ _) ?_)
 go_wp2
 go_ret
 refine ⟨G,C2,rfl,⟨rfl,rfl,rfl,?_,fun k hk _=>?_⟩,?_,hGn,hGm,by rw [← uad,k2,uad,hRs],by rw [show (n+1)*11=n*11+11 by omega]; exact k3⟩
 ·simp
 ·exact (uaw ((w.alloc (.cells ROW 56)).drew.setRow w.heap.size C1).drew w.heap.size k C2 (by omega)).trans ((uaw (w.alloc (.cells ROW 56)).drew w.heap.size k C1 (by omega)).trans (yh w _ k hk))
 ·exact uba ((w.alloc (.cells ROW 56)).drew.setRow w.heap.size C1).drew w.heap.size C1 C2 _ _ (uba (w.alloc (.cells ROW 56)).drew w.heap.size ROW C1 _ _ hnew)
theorem yjf:InsOK Tryz.prog 261 56 zf 120:=by
 refine ⟨ubz ufm (by kernel_rfl) rfl,fun w B n i s v xs news hB hs hv hne hi h1x h1 h63 hby=>?_⟩;rcases uar i n with hin|hin
 ·obtain ⟨vb,vc,vcur,rfl,hvb,hvg,hv1,hv2,hv3,hv4⟩:∃ g cap cur,v = .slice (some ⟨g,0,none⟩) 1 cap/\B<=g/\w.heap[g]? = some (.cells cur 56 (0,0))/\1<=cap/\cap<=maxLen/\cur.size=cap*zf.size/\cur.toList.take (1*zf.size)=news:=by
   rcases hv.2 with ⟨_,h0⟩|h'
   ·exact absurd h0 (by omega)
   ·exact h'
  rcases hs.2 with ⟨rfl,h0⟩|⟨g,cap,cur,rfl,hbg,hg,hnc,hcm,hcs,htake⟩
  ·omega
  ·have hne':vb≠g:=fun e=>hne vb rfl (by rw [e]; rfl);rcases uar cap (n+1) with hr|hr
   ·refine (zxs w n i g cap vb vc cur xs news hin hg hcs hnc hr htake vcur hvg hv.1 hv4 h1x h1 h63 hby).mono fun en w' hp=>?_;obtain ⟨G,C,rfl,hgr,hh,a1,a2,a3,a4⟩:=hp;refine ⟨_,rfl,⟨hgr.os,hgr.tape,hgr.output,hgr.size,fun k hk _=>hgr.block k hk (by simp)⟩,⟨?_,.inr ⟨_,_,_,rfl,hB,hh,a1,a2,a3,a4⟩⟩,.inr rfl⟩;show (xs.take (i*11)++news++xs.drop (i*11)).length=(n+1)*11;rw [← a4,uae,uad,a3];exact ubo (uam _ a1)
   ·refine (zth w n i g cap vb vc cur xs news hin hg hcs hr hcm htake vcur hvg hne' hv.1 hv4 hv1 hv3 h1x h1).mono fun en w' hp=>?_;obtain ⟨cur',rfl,rfl,a3,a4⟩:=hp;have a5:cur'.size=cap*11:=a3.trans hcs;refine ⟨_,rfl,⟨rfl,rfl,rfl,by simp,fun k _ hk=>uaw w.drew g k _ (fun e=>hk (by simp [Value.ownBlock,e]))⟩,⟨?_,.inr ⟨g,cap,cur',rfl,hbg,uba w.drew g cur cur' _ _ hg,hr,hcm,a5,a4⟩⟩,.inl rfl⟩;show (xs.take (i*11)++news++xs.drop (i*11)).length=(n+1)*11;rw [← a4,uae,uad,a5];exact ubo (uam _ hr)
 ·have he:i=n:=by omega
  subst he;refine (yc1 w B i s v xs news hB hs hv h1 h63 hby).mono fun en w' hp=>?_;obtain ⟨v',rfl,a1,a2,a3⟩:=hp;refine ⟨v',rfl,a1,?_,a3⟩;have hx:xs.length=i*zf.size:=hs.1;rw [udc (by omega),uc5 (by omega),ud1];exact a2
set_option maxHeartbeats 4000000 in
set_option maxRecDepth 100000 in
theorem zrx:CloneOK Tryz.prog 262 56 zf 120:=by
 refine ⟨ubz Tryz.func262 (by kernel_rfl) rfl,fun w n c A xs hnc hA hxl hxc h1 h63 hby=>?_⟩;obtain ⟨i0,hi0,hz0,hz1,hz2⟩:=ucq zk7;have hcmp:∀ (A:Option Addr) (n c:Nat),(binOp .eql 25 (.slice A n c) (.slice none 0 0)).run Tryz.prog w = .ok (.bool A.isNone) w:=fun A n c=>by
  have h1:binOp .eql 25 (.slice A n c) (.slice none 0 0)=(do pure (.bool (← Op.equal 25 (.slice A n c) (.slice none 0 0)))):=rfl;have h2:Op.equal 25 (.slice A n c) (.slice none 0 0)=Op.equalIn (9999+1) 25 (.slice A n c) (.slice none 0 0):=rfl;rw [h1,h2];simp [ql1 udf]
 go_enter Tryz.func262,Tryz.ntmps262
 cases A with
 |none=>
  have h0:=hA rfl;subst h0;have hx:xs=[]:=ucr (by simpa using hxl);subst hx
  go_wp2_with (simp only [hcmp])
  go_ret
  exact ⟨_,rfl,⟨rfl,rfl,rfl,ua3 _,fun _ _ _=>rfl⟩,ucz _ _ _ _⟩
 |some ad=>
  have hW:(w.alloc (.cells #[] 56)).ownsRow w.heap.size 56 11 (.slice (some ⟨w.heap.size,0,none⟩) 0 0) 0 []:=World.ownsRow_lit w #[] 0 (Nat.le_refl _) (by unfold maxLen; omega) rfl;have hcell:∀ (j:Nat) u,xs[j]? = some u->(w.alloc (.cells #[] 56)).cell? (ad.add j)=some u:=fun j u hj=>by
   have h:=hxc ad rfl j u hj;have hb:=ufn h;rw [ucf (yh w _ _ hb)];exact h
  obtain ⟨v',w',hr,e2,e3,e4⟩:=qcp (P:=Tryz.prog) (w:=w.alloc (.cells #[] 56)) (B:=w.heap.size) 25 25 56 i0 _ 11 udf hi0 hz0 hz1 rfl (by decide) _ 0 [] hW (some ad) n c xs (fun h=>by cases h) hxl (fun ad' e=>by cases e; exact hcell) h1 (by rw [uai]; exact h63) (by rw [hz2,uai]; exact hby) (by simp);have hr':∀ ty,(Builtin.append_ #[25,25] ty #[.slice (some ⟨w.heap.size,0,none⟩) 0 0,.slice (some ad) n c]).run Tryz.prog (w.alloc (.cells #[] 56)) = .ok v' w':=fun ty=>hr;clear hr
  go_wp2_with (first|(simp only [hcmp]; done)|simp only [hcmp]|(at_builtin; refine uce _ rfl _ _ _ _ rfl _ _ rfl rfl _ _ (hr' _) ?_))
  go_ret
  rw [uai,uav] at e2;refine ⟨v',rfl,⟨e3.os,e3.tape,e3.output,ual (by simp) e3.size,fun k hk _=>(e3.block k (by simp; omega) (fun e=>?_)).trans (yh w _ k hk)⟩,e2⟩;have:k=w.heap.size:=by simpa [Value.ownBlock] using e
  omega
set_option maxRecDepth 100000 in
theorem zk8:(Tryz.prog.info? 76).map (fun i=>(i.zero,i.size,i.bytes))=some (some (.agg #[.int .i64 0,.int .i64 0,.int .i64 0,.int .i64 0,.int .i64 0,.int .i64 0,.slice none 0 0]),7,72):=by kernel_rfl
set_option maxHeartbeats 4000000 in
set_option maxRecDepth 100000 in
theorem yc2 (w:World) (B n:Nat) (s v:Value) (xs news:List Value) (hB:B<=w.heap.size) (hs:w.ownsRow B 76 7 s n xs) (hv:w.ownsRow B 76 7 v 1 news) (h1:∀ u∈news,u.oneCell'=true) (h63:n+1<=maxLen) (hby:(n+1)*72<=140737488355328) :
  Calls Tryz.prog 278 #[s,.int .i64 n,v] w fun en w'=>∃ v',en = .returned v'/\w.grownBy w' s.ownBlock/\w'.ownsRow B 76 7 v' (n+1) (xs++news)/\(v'.ownBlock=s.ownBlock∨v'.ownBlock=some w.heap.size):=by
 obtain ⟨i0,hi0,hz0,hz1,hz2⟩:=ucq zk8;obtain ⟨vb,vc,vcur,rfl,hvb,hvg,hv1,hv2,hv3,hv4⟩:∃ g cap cur,v = .slice (some ⟨g,0,none⟩) 1 cap/\B<=g/\w.heap[g]? = some (.cells cur 76 (0,0))/\1<=cap/\cap<=maxLen/\cur.size=cap*7/\cur.toList.take (1*7)=news:=by
  rcases hv.2 with ⟨_,h0⟩|h'
  ·exact absurd h0 (by omega)
  ·exact h'
 obtain ⟨v',w',hr,e2,e3,e4⟩:=qcp (P:=Tryz.prog) (w:=w) (B:=B) 26 26 76 i0 _ 7 Tryz.underlying26 hi0 hz0 hz1 rfl (by decide) s n xs hs (some ⟨vb,0,none⟩) 1 vc news (fun h=>by cases h) hv.1 (fun ad e=>by cases e; exact hv.cells rfl) h1 h63 (by rw [hz2]; exact hby) hB;have hr':∀ ty,(Builtin.append_ #[26,26] ty #[s,.slice (some ⟨vb,0,none⟩) 1 vc]).run Tryz.prog w = .ok v' w':=fun ty=>hr;have hn:(n:Int)<=9223372036854775807:=by unfold maxLen at h63; omega
 clear hr
 go_enter ufo,Tryz.ntmps278
 rcases hs.2 with ⟨rfl,rfl⟩|⟨g,cap,cur,rfl,hbg,hg,hnc,hcm,hcs,htake⟩
 ·go_wp2_with (at_builtin; refine uce _ rfl _ _ _ _ rfl _ _ rfl rfl _ _ (hr' _) ?_)
  go_ret
  exact ⟨_,rfl,e3,e2,e4⟩
 ·go_wp2_with (at_builtin; refine uce _ rfl _ _ _ _ rfl _ _ rfl rfl _ _ (hr' _) ?_)
  all_goals (go_ret; exact ⟨_,rfl,e3,e2,e4⟩)
set_option maxHeartbeats 4000000 in
set_option maxRecDepth 100000 in
theorem zti (w:World) (n i g cap vb vc:Nat) (cur:Array Value) (xs news:List Value) (hi:i<n) (hg:w.heap[g]? = some (.cells cur 76 (0,0))) (hcs:cur.size=cap*7) (hroom:n+1<=cap) (hcm:cap<=maxLen) (htake:cur.toList.take (n*7)=xs)
  (vcur:Array Value) (hvg:w.heap[vb]? = some (.cells vcur 76 (0,0))) (hne:vb≠g) (hnl:news.length=7) (hvt:vcur.toList.take 7=news) (hvc:1<=vc) (hvs:vcur.size=vc*7) (h1x:∀ u∈xs,u.oneCell'=true) (h1:∀ u∈news,u.oneCell'=true) :
  Calls Tryz.prog 278 #[.slice (some ⟨g,0,none⟩) n cap,.int .i64 i,.slice (some ⟨vb,0,none⟩) 1 vc] w fun en w'=>∃ cur',en = .returned (.slice (some ⟨g,0,none⟩) (n+1) cap)/\w'=w.drew.setRow g cur'/\cur'.size=cur.size/\cur'.toList.take ((n+1)*7)=xs.take (i*7)++news++xs.drop (i*7):=by
 have hc63:cap<=9223372036854775807:=by unfold maxLen at hcm; omega
 have hz2:¬ ((i:Int)=(n:Int)):=by omega
 have hw1:IntKind.i64.wrap ((i:Int)+(1:Int))=(i:Int)+(1:Int):=by rw [ub0]; omega
 have hb1:(0:Int)<=(i:Int)+(1:Int):=by omega
 have htn:((i:Int)+(1:Int)).toNat=i+1:=by omega
 have hin:i<=n:=by omega
 have hb2:¬ (cap=i+1):=by omega
 have hb3:(i:Int)<=(n:Int)+(1:Int):=by omega
 have hb4:¬ (cap=i):=by omega
 have hov:∀ lb cb,(callFunc 280 #[.slice (some ⟨vb,0,none⟩) 1 vc,.slice (some ⟨g,(i+1)*7,none⟩) lb cb]).run Tryz.prog w = .ok (.value (.bool false)) w:=fun lb cb=>by
  rw [ugh Tryz.func280 (by kernel_rfl) (by kernel_rfl) (by kernel_rfl) (e:=Extern.SlicesOverlaps.overlaps #[26,26] #[4]) (by kernel_rfl),
   ugi w 26 4 76 udg 7 (fun w=>by kernel_rfl) ⟨vb,0,none⟩ ⟨g,(i+1)*7,none⟩ 1 vc lb cb hne 76 76 vcur.size cur.size (by simp [World.shape?,hvg]) (by simp [World.shape?,hg]) (by omega) (by simp [World.frozen?,hvg]) (by simp [World.frozen?,hvg])]
  rfl
 have hsz:(Tryz.prog.info? 76).map (·.size)=some 7:=by kernel_rfl
 have hxl:xs.length=n*7:=by rw [← htake,uae,uad]; omega
 have hdl:(xs.drop (i*7)).length=(n-i)*7:=by rw [ubl,hxl]; omega
 obtain ⟨C1,hC1⟩:∃ C1:Array Value,C1=(cur.toList.take ((i+1)*7)++xs.drop (i*7)++cur.toList.drop ((i+1)*7+(xs.drop (i*7)).length)).toArray:=⟨_,rfl⟩;obtain ⟨C2,hC2⟩:∃ C2:Array Value,C2=(C1.toList.take (i*7)++news++C1.toList.drop (i*7+news.length)).toArray:=⟨_,rfl⟩;obtain ⟨k1,k2,k3⟩:=qva cur.toList xs news (n*7) (i*7) 7 htake (by simp only [uad]; omega) (by omega) hnl C1.toList C2.toList (by rw [hC1]; simp only [show i*7+7=(i+1)*7 by omega]) (by rw [hC2]);have hcp1:∀ ty dc sc,(Builtin.copy_ #[26,26] ty #[.slice (some ⟨g,(i+1)*7,none⟩) (n-i) dc,.slice (some ⟨g,i*7,none⟩) (n+1-i) sc]).run Tryz.prog w.drew = .ok (goInt (Nat.min (n+1-i) (n-i))) (w.drew.setRow g C1):=fun ty dc sc=>by
  rw [hC1];exact yxd w.drew _ _ ty 76 7 g ((i+1)*7) (n-i) dc ⟨g,i*7,none⟩ (n+1-i) sc (xs.drop (i*7)) cur 76 udg hsz (by rw [hdl,show Nat.min (n+1-i) (n-i)=n-i from ugj (by omega)])
   (fun j v hj=>by rw [uc1]; exact wl (w:=w) hg htake (by rwa [ubd] at hj)) hg (by rw [hdl]; omega) (fun v hv=>h1x v (ucm hv))
 have hcp2:∀ ty dc,(Builtin.copy_ #[26,26] ty #[.slice (some ⟨g,i*7,none⟩) (n+1-i) dc,.slice (some ⟨vb,0,none⟩) 1 vc]).run Tryz.prog (w.drew.setRow g C1) = .ok (goInt (Nat.min 1 (n+1-i))) ((w.drew.setRow g C1).setRow g C2):=fun ty dc=>by
  rw [hC2];exact yxd (w.drew.setRow g C1) _ _ ty 76 7 g (i*7) (n+1-i) dc ⟨vb,0,none⟩ 1 vc news C1 76 udg hsz (by rw [hnl,show Nat.min 1 (n+1-i)=1 from ubo (by omega)])
   (fun j v hj=>by
    rw [uc1,uai];exact wl (q:=7) ((uaw w.drew g vb C1 hne).trans hvg) hvt hj) (uba w.drew g cur C1 _ _ hg) (by rw [hnl,← uad,k1,uad]; omega) h1
 rw [ugk] at hcp2;have h1u:=h1;clear hC1 hC2
 go_enter ufo,Tryz.ntmps278
 go_wp2_with (simp only [hov])
 go_region_law (refine qet rfl _ _ 26 26 rfl _ _ (by simp [Act.eval,Act.put]) (by simp [Act.eval,Act.put]) (hcp1 _ _ _) ?_)
 go_wp2_with (at_builtin; refine wx _ rfl _ _ 26 26 rfl _ _ rfl rfl (hcp2 _ _) ?_)
 go_ret
 exact ⟨C2,rfl,rfl,by rw [← uad,k2,uad],by rw [show (n+1)*7=n*7+7 by omega]; exact k3⟩
set_option maxHeartbeats 4000000 in
set_option maxRecDepth 100000 in
theorem zxt (w:World) (n i g cap vb vc:Nat) (cur:Array Value) (xs news:List Value) (hi:i<n) (hg:w.heap[g]? = some (.cells cur 76 (0,0))) (hcs:cur.size=cap*7) (hnc:n<=cap) (hroom:cap<n+1) (htake:cur.toList.take (n*7)=xs)
  (vcur:Array Value) (hvg:w.heap[vb]? = some (.cells vcur 76 (0,0))) (hnl:news.length=7) (hvt:vcur.toList.take 7=news) (h1x:∀ u∈xs,u.oneCell'=true) (h1:∀ u∈news,u.oneCell'=true) (h63:n+1<=maxLen) (hby:(n+1)*72<=140737488355328) :
  Calls Tryz.prog 278 #[.slice (some ⟨g,0,none⟩) n cap,.int .i64 i,.slice (some ⟨vb,0,none⟩) 1 vc] w fun en w'=>∃ G C,en = .returned (.slice (some ⟨w.heap.size,0,none⟩) (n+1) G)/\w.grownBy w' none/\w'.heap[w.heap.size]? = some (.cells C 76 (0,0))/\n+1<=G/\G<=maxLen/\C.size=G*7/\C.toList.take ((n+1)*7)=xs.take (i*7)++news++xs.drop (i*7):=by
 have h63':n+1<=9223372036854775807:=by unfold maxLen at h63; omega
 obtain ⟨i0,hi0,hz0,hz1,hz2⟩:=ucq zk8;have hsz:(Tryz.prog.info? 76).map (·.size)=some 7:=by kernel_rfl
 have hxl:xs.length=n*7:=by rw [← htake,uae,uad]; omega
 have hdl:(xs.drop (i*7)).length=(n-i)*7:=by rw [ubl,hxl]; omega
 have hgw:g<w.heap.size:=(uaa.1 hg).1;have hvw:vb<w.heap.size:=(uaa.1 hvg).1;have hkk:(n:Int)+1-(i:Int)=((n+1-i:Nat):Int):=by omega
 have hik:i+(n+1-i)=n+1:=by omega
 have hold:(Builtin.firstCells i0.size i (.slice (some ⟨g,0,none⟩) i cap)).run Tryz.prog w.drew = .ok (xs.take (i*7)).toArray w.drew:=by
  rw [hz1];exact ugl w.drew 7 i ⟨g,0,none⟩ i cap (xs.take (i*7)) (by rw [uae]; omega) (fun j v hj=>by
   rw [uc1,uai];rw [uap] at hj;split at hj
   ·exact wl (w:=w) hg htake hj
   ·cases hj)
 obtain ⟨G,hG⟩:∃ G,G=grownCap w (n+1) cap 76:=⟨_,rfl⟩;have hGn:n+1<=G:=by rw [hG]; exact uef w _ _ _
 have hGm:G<=maxLen:=by rw [hG]; exact ueg w _ _ _ h63
 obtain ⟨Z,hZ⟩:∃ Z:Array Value,Z=(Value.agg #[.int .i64 0,.int .i64 0,.int .i64 0,.int .i64 0,.int .i64 0,.int .i64 0,.slice none 0 0]).cells:=⟨_,rfl⟩;have hZ9:Z.size=7:=by rw [hZ]; rfl
 obtain ⟨ROW,hROW⟩:∃ ROW:Array Value,ROW=(xs.take (i*7)).toArray++Builtin.zeroCells Z (n+1-i)++Builtin.zeroCells Z (G-(n+1)):=⟨_,rfl⟩;have hrz:∀ ty,(Builtin.append_ #[26,3] ty #[.slice (some ⟨g,0,none⟩) i cap,.int .i64 ((n:Int)+1-(i:Int))]).run Tryz.prog w =
   .ok (.slice (some ⟨w.heap.size,0,none⟩) (n+1) G) (w.drew.alloc (.cells ROW 76)):=fun ty=>by
  have h:=ugm w 26 3 ty 76 i0 _ .i64 .i64 udg Tryz.underlying3 hi0 hz0 (some ⟨g,0,none⟩) i cap (xs.take (i*7)) hold (n+1-i) (by omega) (by omega) (by omega) (by omega) (by rw [hz2]; omega) (by rw [hz2,hik]; exact uex hroom hby);rw [hik,← hG,← hZ,← hROW] at h;rw [hkk];exact h
 have hRs:ROW.size=G*7:=by
  rw [hROW];simp only [udz,ub5,ueh,hZ9,uae,hxl];omega
 have hRt:ROW.toList.take (i*7)=xs.take (i*7):=by
  rw [hROW,udk,udk,ubf];exact udr (by rw [uae]; omega)
 obtain ⟨C1,hC1⟩:∃ C1:Array Value,C1=(ROW.toList.take (i*7)++news++ROW.toList.drop (i*7+news.length)).toArray:=⟨_,rfl⟩;obtain ⟨C2,hC2⟩:∃ C2:Array Value,C2=(C1.toList.take ((i+1)*7)++xs.drop (i*7)++C1.toList.drop ((i+1)*7+(xs.drop (i*7)).length)).toArray:=⟨_,rfl⟩;obtain ⟨k1,k2,k3⟩:=qy7 ROW.toList xs news (n*7) (i*7) 7 hxl (by omega) hRt (by rw [uad]; omega) hnl C1.toList C2.toList (by rw [hC1]) (by rw [hC2]; simp only [show i*7+7=(i+1)*7 by omega]);have hnew:(w.drew.alloc (.cells ROW 76)).heap[w.heap.size]? = some (.cells ROW 76 (0,0)):=ud6 w.drew _;have hcpA:∀ ty dc,(Builtin.copy_ #[26,26] ty #[.slice (some ⟨w.heap.size,i*7,none⟩) (n+1-i) dc,.slice (some ⟨vb,0,none⟩) 1 vc]).run Tryz.prog (w.alloc (.cells ROW 76)).drew = .ok (goInt (Nat.min 1 (n+1-i))) ((w.alloc (.cells ROW 76)).drew.setRow w.heap.size C1):=fun ty dc=>by
  rw [hC1];exact yxd _ _ _ ty 76 7 w.heap.size (i*7) (n+1-i) dc ⟨vb,0,none⟩ 1 vc news ROW 76 udg hsz (by rw [hnl,show Nat.min 1 (n+1-i)=1 from ubo (by omega)])
   (fun j v hj=>by
    rw [uc1,uai];exact wl (q:=7) ((yh w.drew _ vb hvw).trans hvg) hvt hj) hnew (by omega) h1
 have hcpB:∀ ty dc sc,(Builtin.copy_ #[26,26] ty #[.slice (some ⟨w.heap.size,(i+1)*7,none⟩) (n-i) dc,.slice (some ⟨g,i*7,none⟩) (n-i) sc]).run Tryz.prog ((w.alloc (.cells ROW 76)).drew.setRow w.heap.size C1).drew = .ok (goInt (Nat.min (n-i) (n-i))) (((w.alloc (.cells ROW 76)).drew.setRow w.heap.size C1).drew.setRow w.heap.size C2):=fun ty dc sc=>by
  rw [hC2];exact yxd _ _ _ ty 76 7 w.heap.size ((i+1)*7) (n-i) dc ⟨g,i*7,none⟩ (n-i) sc (xs.drop (i*7)) C1 76 udg hsz (by rw [hdl,show Nat.min (n-i) (n-i)=n-i from uf1 _])
   (fun j v hj=>by
    rw [uc1];exact wl (q:=n*7) (((uaw (w.alloc (.cells ROW 76)).drew w.heap.size g C1 (by omega)).trans (yh w.drew _ g hgw)).trans hg) htake (by rwa [ubd] at hj))
   (uba (w.alloc (.cells ROW 76)).drew w.heap.size ROW C1 _ _ hnew) (by rw [hdl,← uad,k1,uad]; omega) (fun v hv=>h1x v (ucm hv))
 have hz2:¬ ((i:Int)=(n:Int)):=by omega
 have hz3:(cap:Int)<(n:Int)+(1:Int):=by omega
 have hGi:¬ (G=i):=by omega
 have hGim:¬ (G=i+1):=by omega
 have hci:¬ (cap=i):=by omega
 have hw1:IntKind.i64.wrap ((i:Int)+(1:Int))=(i:Int)+(1:Int):=by rw [ub0]; omega
 have hb1:(0:Int)<=(i:Int)+(1:Int):=by omega
 have hin:i<=n:=by omega
 have htn:((i:Int)+(1:Int)).toNat=i+1:=by omega
 have hb3:(i:Int)<=(n:Int):=by omega
 have hG63:G<=9223372036854775807:=by unfold maxLen at hGm; omega
 clear hkk hik hold hROW hC1 hC2 hG hRt hZ
 go_enter ufo,Tryz.ntmps278
 go_wp2_with (first
  |(at_builtin; refine uce _ rfl _ _ _ _ rfl _ _ rfl rfl _ _ (hrz _) ?_)
  |(at_builtin; refine wx _ rfl _ _ 26 26 rfl _ _ rfl rfl (hcpA _ _) ?_)
  |(at_builtin; refine wx _ rfl _ _ 26 26 rfl _ _ rfl rfl (hcpB _ _ _) ?_))
 go_region_law (refine qet rfl _ _ 26 26 rfl _ _ (by simp [Act.eval,Act.put]) (by simp [Act.eval,Act.put]) (hcpB _ _ _) ?_)
 go_wp2
 go_ret
 refine ⟨G,C2,rfl,⟨rfl,rfl,rfl,?_,fun k hk _=>?_⟩,?_,hGn,hGm,by rw [← uad,k2,uad,hRs],by rw [show (n+1)*7=n*7+7 by omega]; exact k3⟩
 ·simp
 ·exact (uaw ((w.alloc (.cells ROW 76)).drew.setRow w.heap.size C1).drew w.heap.size k C2 (by omega)).trans ((uaw (w.alloc (.cells ROW 76)).drew w.heap.size k C1 (by omega)).trans (yh w _ k hk))
 ·exact uba ((w.alloc (.cells ROW 76)).drew.setRow w.heap.size C1).drew w.heap.size C1 C2 _ _ (uba (w.alloc (.cells ROW 76)).drew w.heap.size ROW C1 _ _ hnew)
theorem yjg:InsOK Tryz.prog 278 76 qt 72:=by
 refine ⟨ubz ufo (by kernel_rfl) rfl,fun w B n i s v xs news hB hs hv hne hi h1x h1 h63 hby=>?_⟩;rcases uar i n with hin|hin
 ·obtain ⟨vb,vc,vcur,rfl,hvb,hvg,hv1,hv2,hv3,hv4⟩:∃ g cap cur,v = .slice (some ⟨g,0,none⟩) 1 cap/\B<=g/\w.heap[g]? = some (.cells cur 76 (0,0))/\1<=cap/\cap<=maxLen/\cur.size=cap*qt.size/\cur.toList.take (1*qt.size)=news:=by
   rcases hv.2 with ⟨_,h0⟩|h'
   ·exact absurd h0 (by omega)
   ·exact h'
  rcases hs.2 with ⟨rfl,h0⟩|⟨g,cap,cur,rfl,hbg,hg,hnc,hcm,hcs,htake⟩
  ·omega
  ·have hne':vb≠g:=fun e=>hne vb rfl (by rw [e]; rfl);rcases uar cap (n+1) with hr|hr
   ·refine (zxt w n i g cap vb vc cur xs news hin hg hcs hnc hr htake vcur hvg hv.1 hv4 h1x h1 h63 hby).mono fun en w' hp=>?_;obtain ⟨G,C,rfl,hgr,hh,a1,a2,a3,a4⟩:=hp;refine ⟨_,rfl,⟨hgr.os,hgr.tape,hgr.output,hgr.size,fun k hk _=>hgr.block k hk (by simp)⟩,⟨?_,.inr ⟨_,_,_,rfl,hB,hh,a1,a2,a3,a4⟩⟩,.inr rfl⟩;show (xs.take (i*7)++news++xs.drop (i*7)).length=(n+1)*7;rw [← a4,uae,uad,a3];exact ubo (uam _ a1)
   ·refine (zti w n i g cap vb vc cur xs news hin hg hcs hr hcm htake vcur hvg hne' hv.1 hv4 hv1 hv3 h1x h1).mono fun en w' hp=>?_;obtain ⟨cur',rfl,rfl,a3,a4⟩:=hp;have a5:cur'.size=cap*7:=a3.trans hcs;refine ⟨_,rfl,⟨rfl,rfl,rfl,by simp,fun k _ hk=>uaw w.drew g k _ (fun e=>hk (by simp [Value.ownBlock,e]))⟩,⟨?_,.inr ⟨g,cap,cur',rfl,hbg,uba w.drew g cur cur' _ _ hg,hr,hcm,a5,a4⟩⟩,.inl rfl⟩;show (xs.take (i*7)++news++xs.drop (i*7)).length=(n+1)*7;rw [← a4,uae,uad,a5];exact ubo (uam _ hr)
 ·have he:i=n:=by omega
  subst he;refine (yc2 w B i s v xs news hB hs hv h1 h63 hby).mono fun en w' hp=>?_;obtain ⟨v',rfl,a1,a2,a3⟩:=hp;refine ⟨v',rfl,a1,?_,a3⟩;have hx:xs.length=i*qt.size:=hs.1;rw [udc (by omega),uc5 (by omega),ud1];exact a2
set_option maxHeartbeats 4000000 in
set_option maxRecDepth 100000 in
theorem zrz:CloneOK Tryz.prog 279 76 qt 72:=by
 refine ⟨ubz Tryz.func279 (by kernel_rfl) rfl,fun w n c A xs hnc hA hxl hxc h1 h63 hby=>?_⟩;obtain ⟨i0,hi0,hz0,hz1,hz2⟩:=ucq zk8;have hcmp:∀ (A:Option Addr) (n c:Nat),(binOp .eql 26 (.slice A n c) (.slice none 0 0)).run Tryz.prog w = .ok (.bool A.isNone) w:=fun A n c=>by
  have h1:binOp .eql 26 (.slice A n c) (.slice none 0 0)=(do pure (.bool (← Op.equal 26 (.slice A n c) (.slice none 0 0)))):=rfl;have h2:Op.equal 26 (.slice A n c) (.slice none 0 0)=Op.equalIn (9999+1) 26 (.slice A n c) (.slice none 0 0):=rfl;rw [h1,h2];simp [ql1 udg]
 go_enter Tryz.func279,Tryz.ntmps279
 cases A with
 |none=>
  have h0:=hA rfl;subst h0;have hx:xs=[]:=ucr (by simpa using hxl);subst hx
  go_wp2_with (simp only [hcmp])
  go_ret
  exact ⟨_,rfl,⟨rfl,rfl,rfl,ua3 _,fun _ _ _=>rfl⟩,ucz _ _ _ _⟩
 |some ad=>
  have hW:(w.alloc (.cells #[] 76)).ownsRow w.heap.size 76 7 (.slice (some ⟨w.heap.size,0,none⟩) 0 0) 0 []:=World.ownsRow_lit w #[] 0 (Nat.le_refl _) (by unfold maxLen; omega) rfl;have hcell:∀ (j:Nat) u,xs[j]? = some u->(w.alloc (.cells #[] 76)).cell? (ad.add j)=some u:=fun j u hj=>by
   have h:=hxc ad rfl j u hj;have hb:=ufn h;rw [ucf (yh w _ _ hb)];exact h
  obtain ⟨v',w',hr,e2,e3,e4⟩:=qcp (P:=Tryz.prog) (w:=w.alloc (.cells #[] 76)) (B:=w.heap.size) 26 26 76 i0 _ 7 udg hi0 hz0 hz1 rfl (by decide) _ 0 [] hW (some ad) n c xs (fun h=>by cases h) hxl (fun ad' e=>by cases e; exact hcell) h1 (by rw [uai]; exact h63) (by rw [hz2,uai]; exact hby) (by simp);have hr':∀ ty,(Builtin.append_ #[26,26] ty #[.slice (some ⟨w.heap.size,0,none⟩) 0 0,.slice (some ad) n c]).run Tryz.prog (w.alloc (.cells #[] 76)) = .ok v' w':=fun ty=>hr;clear hr
  go_wp2_with (first|(simp only [hcmp]; done)|simp only [hcmp]|(at_builtin; refine uce _ rfl _ _ _ _ rfl _ _ rfl rfl _ _ (hr' _) ?_))
  go_ret
  rw [uai,uav] at e2;refine ⟨v',rfl,⟨e3.os,e3.tape,e3.output,ual (by simp) e3.size,fun k hk _=>(e3.block k (by simp; omega) (fun e=>?_)).trans (yh w _ k hk)⟩,e2⟩;have:k=w.heap.size:=by simpa [Value.ownBlock] using e
  omega
end Go.Proofs.YtgieagiaagoogaaGreat
