/-
  Parts of the proof, one behind the other: S3, S4, S6, S7, S8, S9, S10, S14, S21, S15, S16, S17, S18, I31, I33, I35, L0, L2, L3, L4, L5, L1, L6, L7, N1, N2, N3, N4, K2, N5, N6, S19, S11.
-/
import Derived.Test.YtgieagiaagoogaaGreatMf
import Derived.Lib.Overlaps
import Derived.Lib.AppendZerosOnto
import Derived.Laws.NewBlocks
import Derived.Deep.RegionLaw
import Derived.Lib.AppendZeros
import Derived.Maps.OwnIn
import Derived.RegionTactic
namespace Go.Proofs.YtgieagiaagoogaaGreat
open Go Go.Ab Go.RowKit Go.Proofs Go.Shelf Go.Lib
set_option maxRecDepth 100000 in
theorem zks:(Tryz.prog.info? 76).map (fun i=>(i.zero,i.size,i.bytes))=some (some (.agg #[.int .i64 0,.int .i64 0,.int .i64 0,.int .i64 0,.int .i64 0,.int .i64 0,.slice none 0 0]),7,72):=by kernel_rfl
set_option maxHeartbeats 4000000 in
set_option maxRecDepth 100000 in
theorem ycb (w:World) (B n:Nat) (s v:Value) (xs news:List Value) (hB:B<=w.heap.size) (hs:w.ownsRow B 76 7 s n xs) (hv:w.ownsRow B 76 7 v 1 news) (h1:∀ u ∈ news,u.oneCell'=true) (h63:n+1<=maxLen) (hby:(n+1) * 72<=140737488355328) :
  Calls Tryz.prog 278 #[s,.int .i64 n,v] w fun en w'=>∃ v',en = .returned v'/\w.grownBy w' s.ownBlock/\w'.ownsRow B 76 7 v' (n+1) (xs++news)/\(v'.ownBlock=s.ownBlock ∨ v'.ownBlock=some w.heap.size):=by
 obtain ⟨i0,hi0,hz0,hz1,hz2⟩:=info_parts zks
 obtain ⟨vb,vc,vcur,rfl,hvb,hvg,hv1,hv2,hv3,hv4⟩:∃ g cap cur,v = .slice (some ⟨g,0,none⟩) 1 cap/\B<=g/\w.heap[g]? = some (.cells cur 76 (0,0))/\1<=cap/\cap<=maxLen/\cur.size=cap * 7/\cur.toList.take (1 * 7)=news:=by
  rcases hv.2 with ⟨_,h0⟩ | h'
  ·exact absurd h0 (by omega)
  ·exact h'
 obtain ⟨v',w',hr,e2,e3,e4⟩:=qci (P:=Tryz.prog) (w:=w) (B:=B) 26 26 76 i0 _ 7 Tryz.underlying26 hi0 hz0 hz1 rfl (by decide) s n xs hs (some ⟨vb,0,none⟩) 1 vc news (fun h=>by cases h) hv.1 (fun ad e=>by cases e; exact hv.cells rfl) h1 h63 (by rw [hz2]; exact hby) hB
 have hr':∀ ty,(Builtin.append_ #[26,26] ty #[s,.slice (some ⟨vb,0,none⟩) 1 vc]).run Tryz.prog w = .ok v' w':=fun ty=>hr
 have hn:(n:Int)<=9223372036854775807:=by unfold maxLen at h63; omega
 clear hr
 go_enter Tryz.func278,Tryz.ntmps278
 rcases hs.2 with ⟨rfl,rfl⟩ | ⟨g,cap,cur,rfl,hbg,hg,hnc,hcm,hcs,htake⟩
 ·go_wp2_with (at_builtin; refine Lib.wpList_append_run _ rfl _ _ _ _ rfl _ _ rfl rfl _ _ (hr' _) ?_)
  go_ret
  exact ⟨_,rfl,e3,e2,e4⟩
 ·go_wp2_with (at_builtin; refine Lib.wpList_append_run _ rfl _ _ _ _ rfl _ _ rfl rfl _ _ (hr' _) ?_)
  all_goals (go_ret; exact ⟨_,rfl,e3,e2,e4⟩)
set_option maxHeartbeats 4000000 in
set_option maxRecDepth 100000 in
theorem zsy (w:World) (n i g cap vb vc:Nat) (cur:Array Value) (xs news:List Value) (hi:i < n) (hg:w.heap[g]? = some (.cells cur 76 (0,0))) (hcs:cur.size=cap * 7) (hroom:n+1<=cap) (hcm:cap<=maxLen) (htake:cur.toList.take (n * 7)=xs)
  (vcur:Array Value) (hvg:w.heap[vb]? = some (.cells vcur 76 (0,0))) (hne:vb ≠ g) (hnl:news.length=7) (hvt:vcur.toList.take 7=news) (hvc:1<=vc) (hvs:vcur.size=vc * 7) (h1x:∀ u ∈ xs,u.oneCell'=true) (h1:∀ u ∈ news,u.oneCell'=true) :
  Calls Tryz.prog 278 #[.slice (some ⟨g,0,none⟩) n cap,.int .i64 i,.slice (some ⟨vb,0,none⟩) 1 vc] w fun en w'=>∃ cur',en = .returned (.slice (some ⟨g,0,none⟩) (n+1) cap)/\w'=w.drew.setRow g cur'/\cur'.size=cur.size/\cur'.toList.take ((n+1) * 7)=xs.take (i * 7)++news++xs.drop (i * 7):=by
 have hc63:cap<=9223372036854775807:=by unfold maxLen at hcm; omega
 have hz2:¬ ((i:Int)=(n:Int)):=by omega
 have hw1:IntKind.i64.wrap ((i:Int)+(1:Int))=(i:Int)+(1:Int):=by rw [IntKind.wrap_i64]; omega
 have hb1:(0:Int)<=(i:Int)+(1:Int):=by omega
 have htn:((i:Int)+(1:Int)).toNat=i+1:=by omega
 have hin:i<=n:=by omega
 have hb2:¬ (cap=i+1):=by omega
 have hb3:(i:Int)<=(n:Int)+(1:Int):=by omega
 have hb4:¬ (cap=i):=by omega
 have hov:∀ lb cb,(callFunc 280 #[.slice (some ⟨vb,0,none⟩) 1 vc,.slice (some ⟨g,(i+1) * 7,none⟩) lb cb]).run Tryz.prog w = .ok (.value (.bool false)) w:=fun lb cb=>by
  rw [run_callFunc_extern Tryz.func280 (by kernel_rfl) (by kernel_rfl) (by kernel_rfl) (e:=Extern.SlicesOverlaps.overlaps #[26,26] #[4]) (by kernel_rfl),
   Lib.run_overlaps_apart w 26 4 76 Tryz.underlying26 7 (fun w=>by kernel_rfl) ⟨vb,0,none⟩ ⟨g,(i+1) * 7,none⟩ 1 vc lb cb hne 76 76 vcur.size cur.size (by simp [World.shape?,hvg]) (by simp [World.shape?,hg]) (by omega) (by simp [World.frozen?,hvg]) (by simp [World.frozen?,hvg])]
  rfl
 have hsz:(Tryz.prog.info? 76).map (·.size)=some 7:=by kernel_rfl
 have hxl:xs.length=n * 7:=by rw [← htake,List.length_take,Array.length_toList]; omega
 have hdl:(xs.drop (i * 7)).length=(n - i) * 7:=by rw [List.length_drop,hxl]; omega
 obtain ⟨C1,hC1⟩:∃ C1:Array Value,C1=(cur.toList.take ((i+1) * 7)++xs.drop (i * 7)++cur.toList.drop ((i+1) * 7+(xs.drop (i * 7)).length)).toArray:=⟨_,rfl⟩
 obtain ⟨C2,hC2⟩:∃ C2:Array Value,C2=(C1.toList.take (i * 7)++news++C1.toList.drop (i * 7+news.length)).toArray:=⟨_,rfl⟩
 obtain ⟨k1,k2,k3⟩:=qut cur.toList xs news (n * 7) (i * 7) 7 htake (by simp only [Array.length_toList]; omega) (by omega) hnl C1.toList C2.toList (by rw [hC1]; simp only [show i * 7+7=(i+1) * 7 by omega]) (by rw [hC2])
 have hcp1:∀ ty dc sc,(Builtin.copy_ #[26,26] ty #[.slice (some ⟨g,(i+1) * 7,none⟩) (n - i) dc,.slice (some ⟨g,i * 7,none⟩) (n+1 - i) sc]).run Tryz.prog w.drew = .ok (goInt (Nat.min (n+1 - i) (n - i))) (w.drew.setRow g C1):=fun ty dc sc=>by
  rw [hC1]
  exact kb w.drew _ _ ty 76 7 g ((i+1) * 7) (n - i) dc ⟨g,i * 7,none⟩ (n+1 - i) sc (xs.drop (i * 7)) cur 76 Tryz.underlying26 hsz (by rw [hdl,show Nat.min (n+1 - i) (n - i)=n - i from Nat.min_eq_right (by omega)])
   (fun j v hj=>by rw [Addr.add_lit]; exact wh (w:=w) hg htake (by rwa [List.getElem?_drop] at hj)) hg (by rw [hdl]; omega) (fun v hv=>h1x v (List.mem_of_mem_drop hv))
 have hcp2:∀ ty dc,(Builtin.copy_ #[26,26] ty #[.slice (some ⟨g,i * 7,none⟩) (n+1 - i) dc,.slice (some ⟨vb,0,none⟩) 1 vc]).run Tryz.prog (w.drew.setRow g C1) = .ok (goInt (Nat.min 1 (n+1 - i))) ((w.drew.setRow g C1).setRow g C2):=fun ty dc=>by
  rw [hC2]
  exact kb (w.drew.setRow g C1) _ _ ty 76 7 g (i * 7) (n+1 - i) dc ⟨vb,0,none⟩ 1 vc news C1 76 Tryz.underlying26 hsz (by rw [hnl,show Nat.min 1 (n+1 - i)=1 from Nat.min_eq_left (by omega)])
   (fun j v hj=>by
    rw [Addr.add_lit,Nat.zero_add]
    exact wh (q:=7) ((setRow_other w.drew g vb C1 hne).trans hvg) hvt hj) (setRow_heap w.drew g cur C1 _ _ hg) (by rw [hnl,← Array.length_toList,k1,Array.length_toList]; omega) h1
 rw [setRow_setRow] at hcp2
 have h1u:=h1
 clear hC1 hC2
 go_enter Tryz.func278,Tryz.ntmps278
 go_wp2_with (simp only [hov])
 go_region_law (refine qen rfl _ _ 26 26 rfl _ _ (by simp [Act.eval,Act.put]) (by simp [Act.eval,Act.put]) (hcp1 _ _ _) ?_)
 go_wp2_with (at_builtin; refine wu _ rfl _ _ 26 26 rfl _ _ rfl rfl (hcp2 _ _) ?_)
 go_ret
 exact ⟨C2,rfl,rfl,by rw [← Array.length_toList,k2,Array.length_toList],by rw [show (n+1) * 7=n * 7+7 by omega]; exact k3⟩
set_option maxHeartbeats 4000000 in
set_option maxRecDepth 100000 in
theorem zxa (w:World) (n i g cap vb vc:Nat) (cur:Array Value) (xs news:List Value) (hi:i < n) (hg:w.heap[g]? = some (.cells cur 76 (0,0))) (hcs:cur.size=cap * 7) (hnc:n<=cap) (hroom:cap < n+1) (htake:cur.toList.take (n * 7)=xs)
  (vcur:Array Value) (hvg:w.heap[vb]? = some (.cells vcur 76 (0,0))) (hnl:news.length=7) (hvt:vcur.toList.take 7=news) (h1x:∀ u ∈ xs,u.oneCell'=true) (h1:∀ u ∈ news,u.oneCell'=true) (h63:n+1<=maxLen) (hby:(n+1) * 72<=140737488355328) :
  Calls Tryz.prog 278 #[.slice (some ⟨g,0,none⟩) n cap,.int .i64 i,.slice (some ⟨vb,0,none⟩) 1 vc] w fun en w'=>∃ G C,en = .returned (.slice (some ⟨w.heap.size,0,none⟩) (n+1) G)/\w.grownBy w' none/\w'.heap[w.heap.size]? = some (.cells C 76 (0,0))/\n+1<=G/\G<=maxLen/\C.size=G * 7/\C.toList.take ((n+1) * 7)=xs.take (i * 7)++news++xs.drop (i * 7):=by
 have h63':n+1<=9223372036854775807:=by unfold maxLen at h63; omega
 obtain ⟨i0,hi0,hz0,hz1,hz2⟩:=info_parts zks
 have hsz:(Tryz.prog.info? 76).map (·.size)=some 7:=by kernel_rfl
 have hxl:xs.length=n * 7:=by rw [← htake,List.length_take,Array.length_toList]; omega
 have hdl:(xs.drop (i * 7)).length=(n - i) * 7:=by rw [List.length_drop,hxl]; omega
 have hgw:g < w.heap.size:=(Array.getElem?_eq_some_iff.1 hg).1
 have hvw:vb < w.heap.size:=(Array.getElem?_eq_some_iff.1 hvg).1
 have hkk:(n:Int)+1 - (i:Int)=((n+1 - i:Nat):Int):=by omega
 have hik:i+(n+1 - i)=n+1:=by omega
 have hold:(Builtin.firstCells i0.size i (.slice (some ⟨g,0,none⟩) i cap)).run Tryz.prog w.drew = .ok (xs.take (i * 7)).toArray w.drew:=by
  rw [hz1]
  exact run_firstCells_some w.drew 7 i ⟨g,0,none⟩ i cap (xs.take (i * 7)) (by rw [List.length_take]; omega) (fun j v hj=>by
   rw [Addr.add_lit,Nat.zero_add]
   rw [List.getElem?_take] at hj
   split at hj
   ·exact wh (w:=w) hg htake hj
   ·cases hj)
 obtain ⟨G,hG⟩:∃ G,G=grownCap w (n+1) cap 76:=⟨_,rfl⟩
 have hGn:n+1<=G:=by rw [hG]; exact grownCap_ge w _ _ _
 have hGm:G<=maxLen:=by rw [hG]; exact grownCap_le_maxLen w _ _ _ h63
 obtain ⟨Z,hZ⟩:∃ Z:Array Value,Z=(Value.agg #[.int .i64 0,.int .i64 0,.int .i64 0,.int .i64 0,.int .i64 0,.int .i64 0,.slice none 0 0]).cells:=⟨_,rfl⟩
 have hZ9:Z.size=7:=by rw [hZ]; rfl
 obtain ⟨ROW,hROW⟩:∃ ROW:Array Value,ROW=(xs.take (i * 7)).toArray++Builtin.zeroCells Z (n+1 - i)++Builtin.zeroCells Z (G - (n+1)):=⟨_,rfl⟩
 have hrz:∀ ty,(Builtin.append_ #[26,3] ty #[.slice (some ⟨g,0,none⟩) i cap,.int .i64 ((n:Int)+1 - (i:Int))]).run Tryz.prog w =
   .ok (.slice (some ⟨w.heap.size,0,none⟩) (n+1) G) (w.drew.alloc (.cells ROW 76)):=fun ty=>by
  have h:=Lib.run_append_grow_zeros w 26 3 ty 76 i0 _ .i64 .i64 Tryz.underlying26 Tryz.underlying3 hi0 hz0 (some ⟨g,0,none⟩) i cap (xs.take (i * 7)) hold (n+1 - i) (by omega) (by omega) (by omega) (by omega) (by rw [hz2]; omega) (by rw [hz2,hik]; exact growslice_fits hroom hby)
  rw [hik,← hG,← hZ,← hROW] at h
  rw [hkk]
  exact h
 have hRs:ROW.size=G * 7:=by
  rw [hROW]
  simp only [Array.size_append,List.size_toArray,size_zeroCells,hZ9,List.length_take,hxl]
  omega
 have hRt:ROW.toList.take (i * 7)=xs.take (i * 7):=by
  rw [hROW,Array.toList_append,Array.toList_append,List.append_assoc]
  exact List.take_left' (by rw [List.length_take]; omega)
 obtain ⟨C1,hC1⟩:∃ C1:Array Value,C1=(ROW.toList.take (i * 7)++news++ROW.toList.drop (i * 7+news.length)).toArray:=⟨_,rfl⟩
 obtain ⟨C2,hC2⟩:∃ C2:Array Value,C2=(C1.toList.take ((i+1) * 7)++xs.drop (i * 7)++C1.toList.drop ((i+1) * 7+(xs.drop (i * 7)).length)).toArray:=⟨_,rfl⟩
 obtain ⟨k1,k2,k3⟩:=qyh ROW.toList xs news (n * 7) (i * 7) 7 hxl (by omega) hRt (by rw [Array.length_toList]; omega) hnl C1.toList C2.toList (by rw [hC1]) (by rw [hC2]; simp only [show i * 7+7=(i+1) * 7 by omega])
 have hnew:(w.drew.alloc (.cells ROW 76)).heap[w.heap.size]? = some (.cells ROW 76 (0,0)):=heap_alloc_new w.drew _
 have hcpA:∀ ty dc,(Builtin.copy_ #[26,26] ty #[.slice (some ⟨w.heap.size,i * 7,none⟩) (n+1 - i) dc,.slice (some ⟨vb,0,none⟩) 1 vc]).run Tryz.prog (w.alloc (.cells ROW 76)).drew = .ok (goInt (Nat.min 1 (n+1 - i))) ((w.alloc (.cells ROW 76)).drew.setRow w.heap.size C1):=fun ty dc=>by
  rw [hC1]
  exact kb _ _ _ ty 76 7 w.heap.size (i * 7) (n+1 - i) dc ⟨vb,0,none⟩ 1 vc news ROW 76 Tryz.underlying26 hsz (by rw [hnl,show Nat.min 1 (n+1 - i)=1 from Nat.min_eq_left (by omega)])
   (fun j v hj=>by
    rw [Addr.add_lit,Nat.zero_add]
    exact wh (q:=7) ((yg w.drew _ vb hvw).trans hvg) hvt hj) hnew (by omega) h1
 have hcpB:∀ ty dc sc,(Builtin.copy_ #[26,26] ty #[.slice (some ⟨w.heap.size,(i+1) * 7,none⟩) (n - i) dc,.slice (some ⟨g,i * 7,none⟩) (n - i) sc]).run Tryz.prog ((w.alloc (.cells ROW 76)).drew.setRow w.heap.size C1).drew = .ok (goInt (Nat.min (n - i) (n - i))) (((w.alloc (.cells ROW 76)).drew.setRow w.heap.size C1).drew.setRow w.heap.size C2):=fun ty dc sc=>by
  rw [hC2]
  exact kb _ _ _ ty 76 7 w.heap.size ((i+1) * 7) (n - i) dc ⟨g,i * 7,none⟩ (n - i) sc (xs.drop (i * 7)) C1 76 Tryz.underlying26 hsz (by rw [hdl,show Nat.min (n - i) (n - i)=n - i from Nat.min_self _])
   (fun j v hj=>by
    rw [Addr.add_lit]
    exact wh (q:=n * 7) (((setRow_other (w.alloc (.cells ROW 76)).drew w.heap.size g C1 (by omega)).trans (yg w.drew _ g hgw)).trans hg) htake (by rwa [List.getElem?_drop] at hj))
   (setRow_heap (w.alloc (.cells ROW 76)).drew w.heap.size ROW C1 _ _ hnew) (by rw [hdl,← Array.length_toList,k1,Array.length_toList]; omega) (fun v hv=>h1x v (List.mem_of_mem_drop hv))
 have hz2:¬ ((i:Int)=(n:Int)):=by omega
 have hz3:(cap:Int) < (n:Int)+(1:Int):=by omega
 have hGi:¬ (G=i):=by omega
 have hGim:¬ (G=i+1):=by omega
 have hci:¬ (cap=i):=by omega
 have hw1:IntKind.i64.wrap ((i:Int)+(1:Int))=(i:Int)+(1:Int):=by rw [IntKind.wrap_i64]; omega
 have hb1:(0:Int)<=(i:Int)+(1:Int):=by omega
 have hin:i<=n:=by omega
 have htn:((i:Int)+(1:Int)).toNat=i+1:=by omega
 have hb3:(i:Int)<=(n:Int):=by omega
 have hG63:G<=9223372036854775807:=by unfold maxLen at hGm; omega
 clear hkk hik hold hROW hC1 hC2 hG hRt hZ
 go_enter Tryz.func278,Tryz.ntmps278
 go_wp2_with (first
  |(at_builtin; refine Lib.wpList_append_run _ rfl _ _ _ _ rfl _ _ rfl rfl _ _ (hrz _) ?_)
  |(at_builtin; refine wu _ rfl _ _ 26 26 rfl _ _ rfl rfl (hcpA _ _) ?_)
  |(at_builtin; refine wu _ rfl _ _ 26 26 rfl _ _ rfl rfl (hcpB _ _ _) ?_))
 go_region_law (refine qen rfl _ _ 26 26 rfl _ _ (by simp [Act.eval,Act.put]) (by simp [Act.eval,Act.put]) (hcpB _ _ _) ?_)
 go_wp2
 go_ret
 refine ⟨G,C2,rfl,⟨rfl,rfl,rfl,?_,fun k hk _=>?_⟩,?_,hGn,hGm,by rw [← Array.length_toList,k2,Array.length_toList,hRs],by rw [show (n+1) * 7=n * 7+7 by omega]; exact k3⟩
 ·simp
 ·exact (setRow_other ((w.alloc (.cells ROW 76)).drew.setRow w.heap.size C1).drew w.heap.size k C2 (by omega)).trans ((setRow_other (w.alloc (.cells ROW 76)).drew w.heap.size k C1 (by omega)).trans (yg w _ k hk))
 ·exact setRow_heap ((w.alloc (.cells ROW 76)).drew.setRow w.heap.size C1).drew w.heap.size C1 C2 _ _ (setRow_heap (w.alloc (.cells ROW 76)).drew w.heap.size ROW C1 _ _ hnew)
theorem yie:InsOK Tryz.prog 278 76 qr 72:=by
 refine ⟨enters_of Tryz.func278 (by kernel_rfl) rfl,fun w B n i s v xs news hB hs hv hne hi h1x h1 h63 hby=>?_⟩
 rcases Nat.lt_or_ge i n with hin | hin
 ·obtain ⟨vb,vc,vcur,rfl,hvb,hvg,hv1,hv2,hv3,hv4⟩:∃ g cap cur,v = .slice (some ⟨g,0,none⟩) 1 cap/\B<=g/\w.heap[g]? = some (.cells cur 76 (0,0))/\1<=cap/\cap<=maxLen/\cur.size=cap * qr.size/\cur.toList.take (1 * qr.size)=news:=by
   rcases hv.2 with ⟨_,h0⟩ | h'
   ·exact absurd h0 (by omega)
   ·exact h'
  rcases hs.2 with ⟨rfl,h0⟩ | ⟨g,cap,cur,rfl,hbg,hg,hnc,hcm,hcs,htake⟩
  ·omega
  ·have hne':vb ≠ g:=fun e=>hne vb rfl (by rw [e]; rfl)
   rcases Nat.lt_or_ge cap (n+1) with hr | hr
   ·refine (zxa w n i g cap vb vc cur xs news hin hg hcs hnc hr htake vcur hvg hv.1 hv4 h1x h1 h63 hby).mono fun en w' hp=>?_
    obtain ⟨G,C,rfl,hgr,hh,a1,a2,a3,a4⟩:=hp
    refine ⟨_,rfl,⟨hgr.os,hgr.tape,hgr.output,hgr.size,fun k hk _=>hgr.block k hk (by simp)⟩,⟨?_,.inr ⟨_,_,_,rfl,hB,hh,a1,a2,a3,a4⟩⟩,.inr rfl⟩
    show (xs.take (i * 7)++news++xs.drop (i * 7)).length=(n+1) * 7
    rw [← a4,List.length_take,Array.length_toList,a3]
    exact Nat.min_eq_left (Nat.mul_le_mul_right _ a1)
   ·refine (zsy w n i g cap vb vc cur xs news hin hg hcs hr hcm htake vcur hvg hne' hv.1 hv4 hv1 hv3 h1x h1).mono fun en w' hp=>?_
    obtain ⟨cur',rfl,rfl,a3,a4⟩:=hp
    have a5:cur'.size=cap * 7:=a3.trans hcs
    refine ⟨_,rfl,⟨rfl,rfl,rfl,by simp,fun k _ hk=>setRow_other w.drew g k _ (fun e=>hk (by simp [Value.ownBlock,e]))⟩,⟨?_,.inr ⟨g,cap,cur',rfl,hbg,setRow_heap w.drew g cur cur' _ _ hg,hr,hcm,a5,a4⟩⟩,.inl rfl⟩
    show (xs.take (i * 7)++news++xs.drop (i * 7)).length=(n+1) * 7
    rw [← a4,List.length_take,Array.length_toList,a5]
    exact Nat.min_eq_left (Nat.mul_le_mul_right _ hr)
 ·have he:i=n:=by omega
  subst he
  refine (ycb w B i s v xs news hB hs hv h1 h63 hby).mono fun en w' hp=>?_
  obtain ⟨v',rfl,a1,a2,a3⟩:=hp
  refine ⟨v',rfl,a1,?_,a3⟩
  have hx:xs.length=i * qr.size:=hs.1
  rw [List.take_of_length_le (by omega),List.drop_eq_nil_of_le (by omega),List.append_nil]
  exact a2
set_option maxHeartbeats 4000000 in
set_option maxRecDepth 100000 in
theorem zrf:CloneOK Tryz.prog 279 76 qr 72:=by
 refine ⟨enters_of Tryz.func279 (by kernel_rfl) rfl,fun w n c A xs hnc hA hxl hxc h1 h63 hby=>?_⟩
 obtain ⟨i0,hi0,hz0,hz1,hz2⟩:=info_parts zks
 have hcmp:∀ (A:Option Addr) (n c:Nat),(binOp .eql 26 (.slice A n c) (.slice none 0 0)).run Tryz.prog w = .ok (.bool A.isNone) w:=fun A n c=>by
  have h1:binOp .eql 26 (.slice A n c) (.slice none 0 0)=(do pure (.bool (← Op.equal 26 (.slice A n c) (.slice none 0 0)))):=rfl
  have h2:Op.equal 26 (.slice A n c) (.slice none 0 0)=Op.equalIn (9999+1) 26 (.slice A n c) (.slice none 0 0):=rfl
  rw [h1,h2]
  simp [qlp Tryz.underlying26]
 go_enter Tryz.func279,Tryz.ntmps279
 cases A with
 |none=>
  have h0:=hA rfl
  subst h0
  have hx:xs=[]:=List.eq_nil_of_length_eq_zero (by simpa using hxl)
  subst hx
  go_wp2_with (simp only [hcmp])
  go_ret
  exact ⟨_,rfl,⟨rfl,rfl,rfl,Nat.le_refl _,fun _ _ _=>rfl⟩,World.ownsRow_nil _ _ _ _⟩
 |some ad=>
  have hW:(w.alloc (.cells #[] 76)).ownsRow w.heap.size 76 7 (.slice (some ⟨w.heap.size,0,none⟩) 0 0) 0 []:=World.ownsRow_lit w #[] 0 (Nat.le_refl _) (by unfold maxLen; omega) rfl
  have hcell:∀ (j:Nat) u,xs[j]? = some u->(w.alloc (.cells #[] 76)).cell? (ad.add j)=some u:=fun j u hj=>by
   have h:=hxc ad rfl j u hj
   have hb:=block_lt_of_cell h
   rw [World.cell?_of_block (yg w _ _ hb)]
   exact h
  obtain ⟨v',w',hr,e2,e3,e4⟩:=qci (P:=Tryz.prog) (w:=w.alloc (.cells #[] 76)) (B:=w.heap.size) 26 26 76 i0 _ 7 Tryz.underlying26 hi0 hz0 hz1 rfl (by decide) _ 0 [] hW (some ad) n c xs (fun h=>by cases h) hxl (fun ad' e=>by cases e; exact hcell) h1 (by rw [Nat.zero_add]; exact h63) (by rw [hz2,Nat.zero_add]; exact hby) (by simp)
  have hr':∀ ty,(Builtin.append_ #[26,26] ty #[.slice (some ⟨w.heap.size,0,none⟩) 0 0,.slice (some ad) n c]).run Tryz.prog (w.alloc (.cells #[] 76)) = .ok v' w':=fun ty=>hr
  clear hr
  go_wp2_with (first | (simp only [hcmp]; done) | simp only [hcmp] | (at_builtin; refine Lib.wpList_append_run _ rfl _ _ _ _ rfl _ _ rfl rfl _ _ (hr' _) ?_))
  go_ret
  rw [Nat.zero_add,List.nil_append] at e2
  refine ⟨v',rfl,⟨e3.os,e3.tape,e3.output,Nat.le_trans (by simp) e3.size,fun k hk _=>(e3.block k (by simp; omega) (fun e=>?_)).trans (yg w _ k hk)⟩,e2⟩
  have:k=w.heap.size:=by simpa [Value.ownBlock] using e
  omega
set_option maxRecDepth 100000 in
theorem zkt:(Tryz.prog.info? 44).map (fun i=>(i.zero,i.size,i.bytes))=some (some (.agg #[.int .i64 0,.int .i64 0,.int .i64 0,.int .i64 0,.int .i64 0,.int .i64 0,.int .i64 0,.int .i64 0,.int .i64 0]),9,72):=by kernel_rfl
set_option maxHeartbeats 4000000 in
set_option maxRecDepth 100000 in
theorem ycd (w:World) (B n:Nat) (s v:Value) (xs news:List Value) (hB:B<=w.heap.size) (hs:w.ownsRow B 44 9 s n xs) (hv:w.ownsRow B 44 9 v 1 news) (h1:∀ u ∈ news,u.oneCell'=true) (h63:n+1<=maxLen) (hby:(n+1) * 72<=140737488355328) :
  Calls Tryz.prog 305 #[s,.int .i64 n,v] w fun en w'=>∃ v',en = .returned v'/\w.grownBy w' s.ownBlock/\w'.ownsRow B 44 9 v' (n+1) (xs++news)/\(v'.ownBlock=s.ownBlock ∨ v'.ownBlock=some w.heap.size):=by
 obtain ⟨i0,hi0,hz0,hz1,hz2⟩:=info_parts zkt
 obtain ⟨vb,vc,vcur,rfl,hvb,hvg,hv1,hv2,hv3,hv4⟩:∃ g cap cur,v = .slice (some ⟨g,0,none⟩) 1 cap/\B<=g/\w.heap[g]? = some (.cells cur 44 (0,0))/\1<=cap/\cap<=maxLen/\cur.size=cap * 9/\cur.toList.take (1 * 9)=news:=by
  rcases hv.2 with ⟨_,h0⟩ | h'
  ·exact absurd h0 (by omega)
  ·exact h'
 obtain ⟨v',w',hr,e2,e3,e4⟩:=qci (P:=Tryz.prog) (w:=w) (B:=B) 27 27 44 i0 _ 9 Tryz.underlying27 hi0 hz0 hz1 rfl (by decide) s n xs hs (some ⟨vb,0,none⟩) 1 vc news (fun h=>by cases h) hv.1 (fun ad e=>by cases e; exact hv.cells rfl) h1 h63 (by rw [hz2]; exact hby) hB
 have hr':∀ ty,(Builtin.append_ #[27,27] ty #[s,.slice (some ⟨vb,0,none⟩) 1 vc]).run Tryz.prog w = .ok v' w':=fun ty=>hr
 have hn:(n:Int)<=9223372036854775807:=by unfold maxLen at h63; omega
 clear hr
 go_enter Tryz.func305,Tryz.ntmps305
 rcases hs.2 with ⟨rfl,rfl⟩ | ⟨g,cap,cur,rfl,hbg,hg,hnc,hcm,hcs,htake⟩
 ·go_wp2_with (at_builtin; refine Lib.wpList_append_run _ rfl _ _ _ _ rfl _ _ rfl rfl _ _ (hr' _) ?_)
  go_ret
  exact ⟨_,rfl,e3,e2,e4⟩
 ·go_wp2_with (at_builtin; refine Lib.wpList_append_run _ rfl _ _ _ _ rfl _ _ rfl rfl _ _ (hr' _) ?_)
  all_goals (go_ret; exact ⟨_,rfl,e3,e2,e4⟩)
set_option maxHeartbeats 4000000 in
set_option maxRecDepth 100000 in
theorem zsz (w:World) (n i g cap vb vc:Nat) (cur:Array Value) (xs news:List Value) (hi:i < n) (hg:w.heap[g]? = some (.cells cur 44 (0,0))) (hcs:cur.size=cap * 9) (hroom:n+1<=cap) (hcm:cap<=maxLen) (htake:cur.toList.take (n * 9)=xs)
  (vcur:Array Value) (hvg:w.heap[vb]? = some (.cells vcur 44 (0,0))) (hne:vb ≠ g) (hnl:news.length=9) (hvt:vcur.toList.take 9=news) (hvc:1<=vc) (hvs:vcur.size=vc * 9) (h1x:∀ u ∈ xs,u.oneCell'=true) (h1:∀ u ∈ news,u.oneCell'=true) :
  Calls Tryz.prog 305 #[.slice (some ⟨g,0,none⟩) n cap,.int .i64 i,.slice (some ⟨vb,0,none⟩) 1 vc] w fun en w'=>∃ cur',en = .returned (.slice (some ⟨g,0,none⟩) (n+1) cap)/\w'=w.drew.setRow g cur'/\cur'.size=cur.size/\cur'.toList.take ((n+1) * 9)=xs.take (i * 9)++news++xs.drop (i * 9):=by
 have hc63:cap<=9223372036854775807:=by unfold maxLen at hcm; omega
 have hz2:¬ ((i:Int)=(n:Int)):=by omega
 have hw1:IntKind.i64.wrap ((i:Int)+(1:Int))=(i:Int)+(1:Int):=by rw [IntKind.wrap_i64]; omega
 have hb1:(0:Int)<=(i:Int)+(1:Int):=by omega
 have htn:((i:Int)+(1:Int)).toNat=i+1:=by omega
 have hin:i<=n:=by omega
 have hb2:¬ (cap=i+1):=by omega
 have hb3:(i:Int)<=(n:Int)+(1:Int):=by omega
 have hb4:¬ (cap=i):=by omega
 have hov:∀ lb cb,(callFunc 308 #[.slice (some ⟨vb,0,none⟩) 1 vc,.slice (some ⟨g,(i+1) * 9,none⟩) lb cb]).run Tryz.prog w = .ok (.value (.bool false)) w:=fun lb cb=>by
  rw [run_callFunc_extern Tryz.func308 (by kernel_rfl) (by kernel_rfl) (by kernel_rfl) (e:=Extern.SlicesOverlaps.overlaps #[27,27] #[4]) (by kernel_rfl),
   Lib.run_overlaps_apart w 27 4 44 Tryz.underlying27 9 (fun w=>by kernel_rfl) ⟨vb,0,none⟩ ⟨g,(i+1) * 9,none⟩ 1 vc lb cb hne 44 44 vcur.size cur.size (by simp [World.shape?,hvg]) (by simp [World.shape?,hg]) (by omega) (by simp [World.frozen?,hvg]) (by simp [World.frozen?,hvg])]
  rfl
 have hsz:(Tryz.prog.info? 44).map (·.size)=some 9:=by kernel_rfl
 have hxl:xs.length=n * 9:=by rw [← htake,List.length_take,Array.length_toList]; omega
 have hdl:(xs.drop (i * 9)).length=(n - i) * 9:=by rw [List.length_drop,hxl]; omega
 obtain ⟨C1,hC1⟩:∃ C1:Array Value,C1=(cur.toList.take ((i+1) * 9)++xs.drop (i * 9)++cur.toList.drop ((i+1) * 9+(xs.drop (i * 9)).length)).toArray:=⟨_,rfl⟩
 obtain ⟨C2,hC2⟩:∃ C2:Array Value,C2=(C1.toList.take (i * 9)++news++C1.toList.drop (i * 9+news.length)).toArray:=⟨_,rfl⟩
 obtain ⟨k1,k2,k3⟩:=qut cur.toList xs news (n * 9) (i * 9) 9 htake (by simp only [Array.length_toList]; omega) (by omega) hnl C1.toList C2.toList (by rw [hC1]; simp only [show i * 9+9=(i+1) * 9 by omega]) (by rw [hC2])
 have hcp1:∀ ty dc sc,(Builtin.copy_ #[27,27] ty #[.slice (some ⟨g,(i+1) * 9,none⟩) (n - i) dc,.slice (some ⟨g,i * 9,none⟩) (n+1 - i) sc]).run Tryz.prog w.drew = .ok (goInt (Nat.min (n+1 - i) (n - i))) (w.drew.setRow g C1):=fun ty dc sc=>by
  rw [hC1]
  exact kb w.drew _ _ ty 44 9 g ((i+1) * 9) (n - i) dc ⟨g,i * 9,none⟩ (n+1 - i) sc (xs.drop (i * 9)) cur 44 Tryz.underlying27 hsz (by rw [hdl,show Nat.min (n+1 - i) (n - i)=n - i from Nat.min_eq_right (by omega)])
   (fun j v hj=>by rw [Addr.add_lit]; exact wh (w:=w) hg htake (by rwa [List.getElem?_drop] at hj)) hg (by rw [hdl]; omega) (fun v hv=>h1x v (List.mem_of_mem_drop hv))
 have hcp2:∀ ty dc,(Builtin.copy_ #[27,27] ty #[.slice (some ⟨g,i * 9,none⟩) (n+1 - i) dc,.slice (some ⟨vb,0,none⟩) 1 vc]).run Tryz.prog (w.drew.setRow g C1) = .ok (goInt (Nat.min 1 (n+1 - i))) ((w.drew.setRow g C1).setRow g C2):=fun ty dc=>by
  rw [hC2]
  exact kb (w.drew.setRow g C1) _ _ ty 44 9 g (i * 9) (n+1 - i) dc ⟨vb,0,none⟩ 1 vc news C1 44 Tryz.underlying27 hsz (by rw [hnl,show Nat.min 1 (n+1 - i)=1 from Nat.min_eq_left (by omega)])
   (fun j v hj=>by
    rw [Addr.add_lit,Nat.zero_add]
    exact wh (q:=9) ((setRow_other w.drew g vb C1 hne).trans hvg) hvt hj) (setRow_heap w.drew g cur C1 _ _ hg) (by rw [hnl,← Array.length_toList,k1,Array.length_toList]; omega) h1
 rw [setRow_setRow] at hcp2
 have h1u:=h1
 clear hC1 hC2
 go_enter Tryz.func305,Tryz.ntmps305
 go_wp2_with (simp only [hov])
 go_region_law (refine qen rfl _ _ 27 27 rfl _ _ (by simp [Act.eval,Act.put]) (by simp [Act.eval,Act.put]) (hcp1 _ _ _) ?_)
 go_wp2_with (at_builtin; refine wu _ rfl _ _ 27 27 rfl _ _ rfl rfl (hcp2 _ _) ?_)
 go_ret
 exact ⟨C2,rfl,rfl,by rw [← Array.length_toList,k2,Array.length_toList],by rw [show (n+1) * 9=n * 9+9 by omega]; exact k3⟩
set_option maxHeartbeats 4000000 in
set_option maxRecDepth 100000 in
theorem zxb (w:World) (n i g cap vb vc:Nat) (cur:Array Value) (xs news:List Value) (hi:i < n) (hg:w.heap[g]? = some (.cells cur 44 (0,0))) (hcs:cur.size=cap * 9) (hnc:n<=cap) (hroom:cap < n+1) (htake:cur.toList.take (n * 9)=xs)
  (vcur:Array Value) (hvg:w.heap[vb]? = some (.cells vcur 44 (0,0))) (hnl:news.length=9) (hvt:vcur.toList.take 9=news) (h1x:∀ u ∈ xs,u.oneCell'=true) (h1:∀ u ∈ news,u.oneCell'=true) (h63:n+1<=maxLen) (hby:(n+1) * 72<=140737488355328) :
  Calls Tryz.prog 305 #[.slice (some ⟨g,0,none⟩) n cap,.int .i64 i,.slice (some ⟨vb,0,none⟩) 1 vc] w fun en w'=>∃ G C,en = .returned (.slice (some ⟨w.heap.size,0,none⟩) (n+1) G)/\w.grownBy w' none/\w'.heap[w.heap.size]? = some (.cells C 44 (0,0))/\n+1<=G/\G<=maxLen/\C.size=G * 9/\C.toList.take ((n+1) * 9)=xs.take (i * 9)++news++xs.drop (i * 9):=by
 have h63':n+1<=9223372036854775807:=by unfold maxLen at h63; omega
 obtain ⟨i0,hi0,hz0,hz1,hz2⟩:=info_parts zkt
 have hsz:(Tryz.prog.info? 44).map (·.size)=some 9:=by kernel_rfl
 have hxl:xs.length=n * 9:=by rw [← htake,List.length_take,Array.length_toList]; omega
 have hdl:(xs.drop (i * 9)).length=(n - i) * 9:=by rw [List.length_drop,hxl]; omega
 have hgw:g < w.heap.size:=(Array.getElem?_eq_some_iff.1 hg).1
 have hvw:vb < w.heap.size:=(Array.getElem?_eq_some_iff.1 hvg).1
 have hkk:(n:Int)+1 - (i:Int)=((n+1 - i:Nat):Int):=by omega
 have hik:i+(n+1 - i)=n+1:=by omega
 have hold:(Builtin.firstCells i0.size i (.slice (some ⟨g,0,none⟩) i cap)).run Tryz.prog w.drew = .ok (xs.take (i * 9)).toArray w.drew:=by
  rw [hz1]
  exact run_firstCells_some w.drew 9 i ⟨g,0,none⟩ i cap (xs.take (i * 9)) (by rw [List.length_take]; omega) (fun j v hj=>by
   rw [Addr.add_lit,Nat.zero_add]
   rw [List.getElem?_take] at hj
   split at hj
   ·exact wh (w:=w) hg htake hj
   ·cases hj)
 obtain ⟨G,hG⟩:∃ G,G=grownCap w (n+1) cap 44:=⟨_,rfl⟩
 have hGn:n+1<=G:=by rw [hG]; exact grownCap_ge w _ _ _
 have hGm:G<=maxLen:=by rw [hG]; exact grownCap_le_maxLen w _ _ _ h63
 obtain ⟨Z,hZ⟩:∃ Z:Array Value,Z=(Value.agg #[.int .i64 0,.int .i64 0,.int .i64 0,.int .i64 0,.int .i64 0,.int .i64 0,.int .i64 0,.int .i64 0,.int .i64 0]).cells:=⟨_,rfl⟩
 have hZ9:Z.size=9:=by rw [hZ]; rfl
 obtain ⟨ROW,hROW⟩:∃ ROW:Array Value,ROW=(xs.take (i * 9)).toArray++Builtin.zeroCells Z (n+1 - i)++Builtin.zeroCells Z (G - (n+1)):=⟨_,rfl⟩
 have hrz:∀ ty,(Builtin.append_ #[27,3] ty #[.slice (some ⟨g,0,none⟩) i cap,.int .i64 ((n:Int)+1 - (i:Int))]).run Tryz.prog w =
   .ok (.slice (some ⟨w.heap.size,0,none⟩) (n+1) G) (w.drew.alloc (.cells ROW 44)):=fun ty=>by
  have h:=Lib.run_append_grow_zeros w 27 3 ty 44 i0 _ .i64 .i64 Tryz.underlying27 Tryz.underlying3 hi0 hz0 (some ⟨g,0,none⟩) i cap (xs.take (i * 9)) hold (n+1 - i) (by omega) (by omega) (by omega) (by omega) (by rw [hz2]; omega) (by rw [hz2,hik]; exact growslice_fits hroom hby)
  rw [hik,← hG,← hZ,← hROW] at h
  rw [hkk]
  exact h
 have hRs:ROW.size=G * 9:=by
  rw [hROW]
  simp only [Array.size_append,List.size_toArray,size_zeroCells,hZ9,List.length_take,hxl]
  omega
 have hRt:ROW.toList.take (i * 9)=xs.take (i * 9):=by
  rw [hROW,Array.toList_append,Array.toList_append,List.append_assoc]
  exact List.take_left' (by rw [List.length_take]; omega)
 obtain ⟨C1,hC1⟩:∃ C1:Array Value,C1=(ROW.toList.take (i * 9)++news++ROW.toList.drop (i * 9+news.length)).toArray:=⟨_,rfl⟩
 obtain ⟨C2,hC2⟩:∃ C2:Array Value,C2=(C1.toList.take ((i+1) * 9)++xs.drop (i * 9)++C1.toList.drop ((i+1) * 9+(xs.drop (i * 9)).length)).toArray:=⟨_,rfl⟩
 obtain ⟨k1,k2,k3⟩:=qyh ROW.toList xs news (n * 9) (i * 9) 9 hxl (by omega) hRt (by rw [Array.length_toList]; omega) hnl C1.toList C2.toList (by rw [hC1]) (by rw [hC2]; simp only [show i * 9+9=(i+1) * 9 by omega])
 have hnew:(w.drew.alloc (.cells ROW 44)).heap[w.heap.size]? = some (.cells ROW 44 (0,0)):=heap_alloc_new w.drew _
 have hcpA:∀ ty dc,(Builtin.copy_ #[27,27] ty #[.slice (some ⟨w.heap.size,i * 9,none⟩) (n+1 - i) dc,.slice (some ⟨vb,0,none⟩) 1 vc]).run Tryz.prog (w.alloc (.cells ROW 44)).drew = .ok (goInt (Nat.min 1 (n+1 - i))) ((w.alloc (.cells ROW 44)).drew.setRow w.heap.size C1):=fun ty dc=>by
  rw [hC1]
  exact kb _ _ _ ty 44 9 w.heap.size (i * 9) (n+1 - i) dc ⟨vb,0,none⟩ 1 vc news ROW 44 Tryz.underlying27 hsz (by rw [hnl,show Nat.min 1 (n+1 - i)=1 from Nat.min_eq_left (by omega)])
   (fun j v hj=>by
    rw [Addr.add_lit,Nat.zero_add]
    exact wh (q:=9) ((yg w.drew _ vb hvw).trans hvg) hvt hj) hnew (by omega) h1
 have hcpB:∀ ty dc sc,(Builtin.copy_ #[27,27] ty #[.slice (some ⟨w.heap.size,(i+1) * 9,none⟩) (n - i) dc,.slice (some ⟨g,i * 9,none⟩) (n - i) sc]).run Tryz.prog ((w.alloc (.cells ROW 44)).drew.setRow w.heap.size C1).drew = .ok (goInt (Nat.min (n - i) (n - i))) (((w.alloc (.cells ROW 44)).drew.setRow w.heap.size C1).drew.setRow w.heap.size C2):=fun ty dc sc=>by
  rw [hC2]
  exact kb _ _ _ ty 44 9 w.heap.size ((i+1) * 9) (n - i) dc ⟨g,i * 9,none⟩ (n - i) sc (xs.drop (i * 9)) C1 44 Tryz.underlying27 hsz (by rw [hdl,show Nat.min (n - i) (n - i)=n - i from Nat.min_self _])
   (fun j v hj=>by
    rw [Addr.add_lit]
    exact wh (q:=n * 9) (((setRow_other (w.alloc (.cells ROW 44)).drew w.heap.size g C1 (by omega)).trans (yg w.drew _ g hgw)).trans hg) htake (by rwa [List.getElem?_drop] at hj))
   (setRow_heap (w.alloc (.cells ROW 44)).drew w.heap.size ROW C1 _ _ hnew) (by rw [hdl,← Array.length_toList,k1,Array.length_toList]; omega) (fun v hv=>h1x v (List.mem_of_mem_drop hv))
 have hz2:¬ ((i:Int)=(n:Int)):=by omega
 have hz3:(cap:Int) < (n:Int)+(1:Int):=by omega
 have hGi:¬ (G=i):=by omega
 have hGim:¬ (G=i+1):=by omega
 have hci:¬ (cap=i):=by omega
 have hw1:IntKind.i64.wrap ((i:Int)+(1:Int))=(i:Int)+(1:Int):=by rw [IntKind.wrap_i64]; omega
 have hb1:(0:Int)<=(i:Int)+(1:Int):=by omega
 have hin:i<=n:=by omega
 have htn:((i:Int)+(1:Int)).toNat=i+1:=by omega
 have hb3:(i:Int)<=(n:Int):=by omega
 have hG63:G<=9223372036854775807:=by unfold maxLen at hGm; omega
 clear hkk hik hold hROW hC1 hC2 hG hRt hZ
 go_enter Tryz.func305,Tryz.ntmps305
 go_wp2_with (first
  |(at_builtin; refine Lib.wpList_append_run _ rfl _ _ _ _ rfl _ _ rfl rfl _ _ (hrz _) ?_)
  |(at_builtin; refine wu _ rfl _ _ 27 27 rfl _ _ rfl rfl (hcpA _ _) ?_)
  |(at_builtin; refine wu _ rfl _ _ 27 27 rfl _ _ rfl rfl (hcpB _ _ _) ?_))
 go_region_law (refine qen rfl _ _ 27 27 rfl _ _ (by simp [Act.eval,Act.put]) (by simp [Act.eval,Act.put]) (hcpB _ _ _) ?_)
 go_wp2
 go_ret
 refine ⟨G,C2,rfl,⟨rfl,rfl,rfl,?_,fun k hk _=>?_⟩,?_,hGn,hGm,by rw [← Array.length_toList,k2,Array.length_toList,hRs],by rw [show (n+1) * 9=n * 9+9 by omega]; exact k3⟩
 ·simp
 ·exact (setRow_other ((w.alloc (.cells ROW 44)).drew.setRow w.heap.size C1).drew w.heap.size k C2 (by omega)).trans ((setRow_other (w.alloc (.cells ROW 44)).drew w.heap.size k C1 (by omega)).trans (yg w _ k hk))
 ·exact setRow_heap ((w.alloc (.cells ROW 44)).drew.setRow w.heap.size C1).drew w.heap.size C1 C2 _ _ (setRow_heap (w.alloc (.cells ROW 44)).drew w.heap.size ROW C1 _ _ hnew)
theorem yif:InsOK Tryz.prog 305 44 qf 72:=by
 refine ⟨enters_of Tryz.func305 (by kernel_rfl) rfl,fun w B n i s v xs news hB hs hv hne hi h1x h1 h63 hby=>?_⟩
 rcases Nat.lt_or_ge i n with hin | hin
 ·obtain ⟨vb,vc,vcur,rfl,hvb,hvg,hv1,hv2,hv3,hv4⟩:∃ g cap cur,v = .slice (some ⟨g,0,none⟩) 1 cap/\B<=g/\w.heap[g]? = some (.cells cur 44 (0,0))/\1<=cap/\cap<=maxLen/\cur.size=cap * qf.size/\cur.toList.take (1 * qf.size)=news:=by
   rcases hv.2 with ⟨_,h0⟩ | h'
   ·exact absurd h0 (by omega)
   ·exact h'
  rcases hs.2 with ⟨rfl,h0⟩ | ⟨g,cap,cur,rfl,hbg,hg,hnc,hcm,hcs,htake⟩
  ·omega
  ·have hne':vb ≠ g:=fun e=>hne vb rfl (by rw [e]; rfl)
   rcases Nat.lt_or_ge cap (n+1) with hr | hr
   ·refine (zxb w n i g cap vb vc cur xs news hin hg hcs hnc hr htake vcur hvg hv.1 hv4 h1x h1 h63 hby).mono fun en w' hp=>?_
    obtain ⟨G,C,rfl,hgr,hh,a1,a2,a3,a4⟩:=hp
    refine ⟨_,rfl,⟨hgr.os,hgr.tape,hgr.output,hgr.size,fun k hk _=>hgr.block k hk (by simp)⟩,⟨?_,.inr ⟨_,_,_,rfl,hB,hh,a1,a2,a3,a4⟩⟩,.inr rfl⟩
    show (xs.take (i * 9)++news++xs.drop (i * 9)).length=(n+1) * 9
    rw [← a4,List.length_take,Array.length_toList,a3]
    exact Nat.min_eq_left (Nat.mul_le_mul_right _ a1)
   ·refine (zsz w n i g cap vb vc cur xs news hin hg hcs hr hcm htake vcur hvg hne' hv.1 hv4 hv1 hv3 h1x h1).mono fun en w' hp=>?_
    obtain ⟨cur',rfl,rfl,a3,a4⟩:=hp
    have a5:cur'.size=cap * 9:=a3.trans hcs
    refine ⟨_,rfl,⟨rfl,rfl,rfl,by simp,fun k _ hk=>setRow_other w.drew g k _ (fun e=>hk (by simp [Value.ownBlock,e]))⟩,⟨?_,.inr ⟨g,cap,cur',rfl,hbg,setRow_heap w.drew g cur cur' _ _ hg,hr,hcm,a5,a4⟩⟩,.inl rfl⟩
    show (xs.take (i * 9)++news++xs.drop (i * 9)).length=(n+1) * 9
    rw [← a4,List.length_take,Array.length_toList,a5]
    exact Nat.min_eq_left (Nat.mul_le_mul_right _ hr)
 ·have he:i=n:=by omega
  subst he
  refine (ycd w B i s v xs news hB hs hv h1 h63 hby).mono fun en w' hp=>?_
  obtain ⟨v',rfl,a1,a2,a3⟩:=hp
  refine ⟨v',rfl,a1,?_,a3⟩
  have hx:xs.length=i * qf.size:=hs.1
  rw [List.take_of_length_le (by omega),List.drop_eq_nil_of_le (by omega),List.append_nil]
  exact a2
set_option maxHeartbeats 4000000 in
set_option maxRecDepth 100000 in
theorem zrg:CloneOK Tryz.prog 306 44 qf 72:=by
 refine ⟨enters_of Tryz.func306 (by kernel_rfl) rfl,fun w n c A xs hnc hA hxl hxc h1 h63 hby=>?_⟩
 obtain ⟨i0,hi0,hz0,hz1,hz2⟩:=info_parts zkt
 have hcmp:∀ (A:Option Addr) (n c:Nat),(binOp .eql 27 (.slice A n c) (.slice none 0 0)).run Tryz.prog w = .ok (.bool A.isNone) w:=fun A n c=>by
  have h1:binOp .eql 27 (.slice A n c) (.slice none 0 0)=(do pure (.bool (← Op.equal 27 (.slice A n c) (.slice none 0 0)))):=rfl
  have h2:Op.equal 27 (.slice A n c) (.slice none 0 0)=Op.equalIn (9999+1) 27 (.slice A n c) (.slice none 0 0):=rfl
  rw [h1,h2]
  simp [qlp Tryz.underlying27]
 go_enter Tryz.func306,Tryz.ntmps306
 cases A with
 |none=>
  have h0:=hA rfl
  subst h0
  have hx:xs=[]:=List.eq_nil_of_length_eq_zero (by simpa using hxl)
  subst hx
  go_wp2_with (simp only [hcmp])
  go_ret
  exact ⟨_,rfl,⟨rfl,rfl,rfl,Nat.le_refl _,fun _ _ _=>rfl⟩,World.ownsRow_nil _ _ _ _⟩
 |some ad=>
  have hW:(w.alloc (.cells #[] 44)).ownsRow w.heap.size 44 9 (.slice (some ⟨w.heap.size,0,none⟩) 0 0) 0 []:=World.ownsRow_lit w #[] 0 (Nat.le_refl _) (by unfold maxLen; omega) rfl
  have hcell:∀ (j:Nat) u,xs[j]? = some u->(w.alloc (.cells #[] 44)).cell? (ad.add j)=some u:=fun j u hj=>by
   have h:=hxc ad rfl j u hj
   have hb:=block_lt_of_cell h
   rw [World.cell?_of_block (yg w _ _ hb)]
   exact h
  obtain ⟨v',w',hr,e2,e3,e4⟩:=qci (P:=Tryz.prog) (w:=w.alloc (.cells #[] 44)) (B:=w.heap.size) 27 27 44 i0 _ 9 Tryz.underlying27 hi0 hz0 hz1 rfl (by decide) _ 0 [] hW (some ad) n c xs (fun h=>by cases h) hxl (fun ad' e=>by cases e; exact hcell) h1 (by rw [Nat.zero_add]; exact h63) (by rw [hz2,Nat.zero_add]; exact hby) (by simp)
  have hr':∀ ty,(Builtin.append_ #[27,27] ty #[.slice (some ⟨w.heap.size,0,none⟩) 0 0,.slice (some ad) n c]).run Tryz.prog (w.alloc (.cells #[] 44)) = .ok v' w':=fun ty=>hr
  clear hr
  go_wp2_with (first | (simp only [hcmp]; done) | simp only [hcmp] | (at_builtin; refine Lib.wpList_append_run _ rfl _ _ _ _ rfl _ _ rfl rfl _ _ (hr' _) ?_))
  go_ret
  rw [Nat.zero_add,List.nil_append] at e2
  refine ⟨v',rfl,⟨e3.os,e3.tape,e3.output,Nat.le_trans (by simp) e3.size,fun k hk _=>(e3.block k (by simp; omega) (fun e=>?_)).trans (yg w _ k hk)⟩,e2⟩
  have:k=w.heap.size:=by simpa [Value.ownBlock] using e
  omega
end Go.Proofs.YtgieagiaagoogaaGreat
namespace Go.Proofs.YtgieagiaagoogaaGreat
open Go Go.Ab Go.RowKit Go.Proofs
def plI {α:Type} (g:α->Int) (l:List α) (x:α):Int:=qkb (fun y=>decide (g y > g x)) l
def qc5 {α:Type} (g:α->Int) (l:List α) (x:α):List α:=qnv (if plI g l x < 0 then (l.length:Int) else plI g l x) l [x]
abbrev PPl (T:Ty):List PT:=[.d (.sl T),.d T,.fn [T] [i64]]
def zjy (T:Ty) (n:Nat) (x:qm (PPl T)):Fr (qi [.sl T]):=
 Fr.need (∀ y:qi [T],WfL [T] y->qq ([]:List Prop)) (Fr.br (decide (plI (fun y=>(x.2.2.1 (y,())).1) x.1 x.2.1 < 0))
  (Fr.need (x.1.length<=maxLen) (Fr.need (x.1.length * n<=140737488355328) (Fr.need (0<=(x.1.length:Int)/\(x.1.length:Int)<=x.1.length) (Fr.need ([x.2.1].length=1) (Fr.need (x.1.length+1<=maxLen/\(x.1.length+1) * n<=140737488355328)
   (Fr.val (qnv (x.1.length:Int) x.1 [x.2.1],())))))))
  (Fr.need (x.1.length<=maxLen) (Fr.need (x.1.length * n<=140737488355328) (Fr.need (0<=plI (fun y=>(x.2.2.1 (y,())).1) x.1 x.2.1/\plI (fun y=>(x.2.2.1 (y,())).1) x.1 x.2.1<=x.1.length) (Fr.need ([x.2.1].length=1) (Fr.need (x.1.length+1<=maxLen/\(x.1.length+1) * n<=140737488355328)
   (Fr.val (qnv (plI (fun y=>(x.2.2.1 (y,())).1) x.1 x.2.1) x.1 [x.2.1],()))))))))
def qxw (T:Ty):Ct:=⟨PPl T,[.sl T],fun x=>(qc5 (fun y=>(x.2.2.1 (y,())).1) x.1 x.2.1,()),fun x=>[x.1.length<=100000]⟩
theorem ztq (T:Ty) {n:Nat} (hn:n<=1000) (x:qm (PPl T)) (hl:x.1.length<=100000):(zjy T n x).ok/\(zjy T n x).get=(qc5 (fun y=>(x.2.2.1 (y,())).1) x.1 x.2.1,()):=by
 have h1:x.1.length<=maxLen:=by unfold maxLen; omega
 have h2:x.1.length * n<=140737488355328:=by
  have:x.1.length * n<=100000 * 1000:=Nat.mul_le_mul hl hn
  omega
 have h3:x.1.length+1<=maxLen/\(x.1.length+1) * n<=140737488355328:=by
  refine ⟨by unfold maxLen; omega,?_⟩
  have:(x.1.length+1) * n<=100001 * 1000:=Nat.mul_le_mul (by omega) hn
  omega
 refine Fr.need_ (fun _ _=>trivial) ?_
 by_cases hp:plI (fun y=>(x.2.2.1 (y,())).1) x.1 x.2.1 < 0
 ·exact Fr.br_t (decide_eq_true hp) (Fr.need_ h1 (Fr.need_ h2 (Fr.need_ ⟨by omega,by omega⟩ (Fr.need_ rfl (Fr.need_ h3 ⟨trivial,by unfold qc5; rw [if_pos hp]; rfl⟩)))))
 ·refine Fr.br_f (decide_eq_false hp) (Fr.need_ h1 (Fr.need_ h2 (Fr.need_ ⟨by omega,?_⟩ (Fr.need_ rfl (Fr.need_ h3 ⟨trivial,by unfold qc5; rw [if_neg hp]; rfl⟩)))))
  exact Int.le_of_lt (qq7 (by unfold plI at hp; omega)).1
theorem zy9 {i:Int} {n:Nat} (a:0<=i) (b:i < (n:Int)):i.toNat < n:=by omega
abbrev PWi (T:Ty):List PT:=[.d (.sl T),.d i64,.d T]
def zsk (T:Ty) (n:Nat) (x:qm (PWi T)):Fr (qi [.sl T]):=
 Fr.need (x.1.length<=maxLen) (Fr.need (x.1.length * n<=140737488355328) (Fr.need (0<=x.2.1/\x.2.1 < (x.1.length:Int)) (Fr.need (x.2.1.toNat < x.1.length) (Fr.val (x.1.set x.2.1.toNat x.2.2.1,())))))
def zq8 (T:Ty):Ct:=⟨PWi T,[.sl T],fun x=>(x.1.set x.2.1.toNat x.2.2.1,()),fun x=>[x.1.length<=100000,0<=x.2.1/\x.2.1 < (x.1.length:Int)]⟩
theorem yga (T:Ty) {n:Nat} (hn:n<=1000) (x:qm (PWi T)) (hl:x.1.length<=100000) (hi:0<=x.2.1/\x.2.1 < (x.1.length:Int)):(zsk T n x).ok/\(zsk T n x).get=(x.1.set x.2.1.toNat x.2.2.1,()):=by
 obtain ⟨l,i,y,_⟩:=x
 have h1:l.length<=maxLen:=by unfold maxLen; exact Nat.le_trans hl (by decide)
 have h2:l.length * n<=140737488355328:=by
  have:l.length * n<=100000 * 1000:=Nat.mul_le_mul hl hn
  omega
 have h3:i.toNat < l.length:=zy9 hi.1 hi.2
 exact Fr.need_ h1 (Fr.need_ h2 (Fr.need_ hi (Fr.need_ h3 ⟨trivial,rfl⟩)))
def qh5 (T:Ty):Ct:=⟨[.d T,.pfn [T] [i64],.ptr T],[.bool],fun x=>(decide ((x.2.1 (x.1,())).1 > (x.2.1 (x.2.2.1,())).1),()),fun _=>[]⟩
noncomputable def CS6:Cx:=cx [] []
theorem xf:CxOK Tryz.prog CS6:=zb (cs:=[]) (ps:=[]) qv trivial trivial
theorem yjc:qa Tryz.prog 260 (qh5 ze):=
 conv (qg xf (Λ:=qp) (fn:=Tryz.f260) (fr:=fun x=>Fr.val (decide ((x.2.1 (x.1,())).1 > (x.2.1 (x.2.2.1,())).1),())) (ps:=(qh5 ze).ps) (rs:=[.bool]) (dfP (qh5 ze).ps) (by kernel_rfl) (fun c E _=>qd c 0) (fun x=>by kernel_rfl)) _ _ (fun _ _ _ _ _ _=>⟨trivial,rfl⟩)
noncomputable def yq5:Cx:=cxR [(80,qdc ze),(260,qh5 ze)] [] [(262,.clone 56 ze 120),(261,.ins 56 ze 120)] (fun _ _ _ _=>none)
theorem zoo:CxOK Tryz.prog yq5:=qt6 (cs:=[(80,qdc ze),(260,qh5 ze)]) (ps:=[]) (rs:=[(262,.clone 56 ze 120),(261,.ins 56 ze 120)]) qv ⟨zpg,yjc,trivial⟩ trivial ⟨zrd,yid,trivial⟩ (fun _ _ _ _ _ h=>(nomatch h))
theorem zx9:qa Tryz.prog 257 (qxw ze):=
 conv (qg zoo (Λ:=qp) (fn:=Tryz.f257) (fr:=zjy ze 120) (ps:=PPl ze) (rs:=[.sl ze]) (dfP (PPl ze)) (by kernel_rfl) (fun c E _=>qd c 0) (fun x=>by kernel_rfl)) _ _ (fun _ _ x _ _ h=>ztq ze (by decide) x h)
theorem yey:qa Tryz.prog 271 (zq8 ze):=
 conv (qg zoo (Λ:=qp) (fn:=Tryz.f271) (fr:=zsk ze 120) (ps:=PWi ze) (rs:=[.sl ze]) (dfP (PWi ze)) (by kernel_rfl) (fun c E _=>qd c 0) (fun x=>by kernel_rfl)) _ _ (fun _ _ x _ _ h=>yga ze (by decide) x h.1 h.2)
theorem yjd:qa Tryz.prog 277 (qh5 qr):=
 conv (qg xf (Λ:=qp) (fn:=Tryz.f277) (fr:=fun x=>Fr.val (decide ((x.2.1 (x.1,())).1 > (x.2.1 (x.2.2.1,())).1),())) (ps:=(qh5 qr).ps) (rs:=[.bool]) (dfP (qh5 qr).ps) (by kernel_rfl) (fun c E _=>qd c 0) (fun x=>by kernel_rfl)) _ _ (fun _ _ _ _ _ _=>⟨trivial,rfl⟩)
noncomputable def yq6:Cx:=cxR [(93,qdc qr),(277,qh5 qr)] [] [(279,.clone 76 qr 72),(278,.ins 76 qr 72)] (fun _ _ _ _=>none)
theorem zop:CxOK Tryz.prog yq6:=qt6 (cs:=[(93,qdc qr),(277,qh5 qr)]) (ps:=[]) (rs:=[(279,.clone 76 qr 72),(278,.ins 76 qr 72)]) qv ⟨zcs,yjd,trivial⟩ trivial ⟨zrf,yie,trivial⟩ (fun _ _ _ _ _ h=>(nomatch h))
theorem zya:qa Tryz.prog 274 (qxw qr):=
 conv (qg zop (Λ:=qp) (fn:=Tryz.f274) (fr:=zjy qr 72) (ps:=PPl qr) (rs:=[.sl qr]) (dfP (PPl qr)) (by kernel_rfl) (fun c E _=>qd c 0) (fun x=>by kernel_rfl)) _ _ (fun _ _ x _ _ h=>ztq qr (by decide) x h)
theorem yez:qa Tryz.prog 286 (zq8 qr):=
 conv (qg zop (Λ:=qp) (fn:=Tryz.f286) (fr:=zsk qr 72) (ps:=PWi qr) (rs:=[.sl qr]) (dfP (PWi qr)) (by kernel_rfl) (fun c E _=>qd c 0) (fun x=>by kernel_rfl)) _ _ (fun _ _ x _ _ h=>yga qr (by decide) x h.1 h.2)
theorem yje:qa Tryz.prog 304 (qh5 qf):=
 conv (qg xf (Λ:=qp) (fn:=Tryz.f304) (fr:=fun x=>Fr.val (decide ((x.2.1 (x.1,())).1 > (x.2.1 (x.2.2.1,())).1),())) (ps:=(qh5 qf).ps) (rs:=[.bool]) (dfP (qh5 qf).ps) (by kernel_rfl) (fun c E _=>qd c 0) (fun x=>by kernel_rfl)) _ _ (fun _ _ _ _ _ _=>⟨trivial,rfl⟩)
noncomputable def yq7:Cx:=cxR [(301,qdc qf),(304,qh5 qf)] [] [(306,.clone 44 qf 72),(305,.ins 44 qf 72)] (fun _ _ _ _=>none)
theorem ygq:CxOK Tryz.prog yq7:=qt6 (cs:=[(301,qdc qf),(304,qh5 qf)]) (ps:=[]) (rs:=[(306,.clone 44 qf 72),(305,.ins 44 qf 72)]) qv ⟨zph,yje,trivial⟩ trivial ⟨zrg,yif,trivial⟩ (fun _ _ _ _ _ h=>(nomatch h))
theorem zyb:qa Tryz.prog 300 (qxw qf):=
 conv (qg ygq (Λ:=qp) (fn:=Tryz.f300) (fr:=zjy qf 72) (ps:=PPl qf) (rs:=[.sl qf]) (dfP (PPl qf)) (by kernel_rfl) (fun c E _=>qd c 0) (fun x=>by kernel_rfl)) _ _ (fun _ _ x _ _ h=>ztq qf (by decide) x h)
abbrev kw (s:qj.den):List ze.den:=s.2.1
abbrev xq (s:qj.den):List qr.den:=s.2.2.1
abbrev qel (s:qj.den):List qf.den:=s.2.2.2.1
abbrev qn5 (s:qj.den):Int:=s.2.2.2.2.1
abbrev zj (f:factT.den):Int:=f.1
abbrev za (f:factT.den):Int:=f.2.1
abbrev fId (f:factT.den):Int:=f.2.2.1
abbrev qja (f:factT.den):Int:=f.2.2.2.1
abbrev qf5 (f:factT.den):Int:=f.2.2.2.2.1
abbrev qhj (f:factT.den):zo.den:=f.2.2.2.2.2.1
abbrev qec (f:factT.den):qc.den:=f.2.2.2.2.2.2.1
abbrev qa7 (f:factT.den):ju.den:=f.2.2.2.2.2.2.2.1
abbrev qr5 (f:factT.den):zf.den:=f.2.2.2.2.2.2.2.2.1
abbrev wo (f:factT.den):qf.den:=f.2.2.2.2.2.2.2.2.2.1
abbrev aId (a:ze.den):Int:=a.1.1
abbrev gId (g:qr.den):Int:=g.1.1
def qg8 (s:qj.den) (id:Int):Int:=qkb (fun a=>aId a==id) (kw s)
def qfl (s:qj.den) (id:Int):Int:=qkb (fun g=>gId g==id) (xq s)
def qi0 (s:qj.den) (id:Int):ze.den × Bool:=if qg8 s id ≥ 0 then ((kw s).getD (qg8 s id).toNat ze.dflt,true) else (ze.dflt,false)
def qoz (s:qj.den) (id:Int):qr.den × Bool:=if qfl s id ≥ 0 then ((xq s).getD (qfl s id).toNat qr.dflt,true) else (qr.dflt,false)
def zhz:Ct:=⟨[.d ze,.ptr i64],[.bool],fun x=>(aId x.1==x.2.1,()),fun _=>[]⟩
def zh7:Ct:=⟨[.d qr,.ptr i64],[.bool],fun x=>(gId x.1==x.2.1,()),fun _=>[]⟩
theorem yli:qa Tryz.prog 81 zhz:=
 conv (qg xf (Λ:=qp) (fn:=Tryz.f81) (fr:=fun x=>Fr.val (aId x.1==x.2.1,())) (ps:=zhz.ps) (rs:=[.bool]) (dfP zhz.ps) (by kernel_rfl) (fun c E _=>qd c 0) (fun x=>by kernel_rfl)) _ _ (fun _ _ _ _ _ _=>⟨trivial,rfl⟩)
theorem ymm:qa Tryz.prog 94 zh7:=
 conv (qg xf (Λ:=qp) (fn:=Tryz.f94) (fr:=fun x=>Fr.val (gId x.1==x.2.1,())) (ps:=zh7.ps) (rs:=[.bool]) (dfP zh7.ps) (by kernel_rfl) (fun c E _=>qd c 0) (fun x=>by kernel_rfl)) _ _ (fun _ _ _ _ _ _=>⟨trivial,rfl⟩)
noncomputable def CS7:Cx:=cx [(80,qdc ze),(93,qdc qr),(81,zhz),(94,zh7)] []
theorem zu5:CxOK Tryz.prog CS7:=zb (cs:=[(80,qdc ze),(93,qdc qr),(81,zhz),(94,zh7)]) (ps:=[]) qv ⟨zpg,zcs,yli,ymm,trivial⟩ trivial
abbrev PSI:List PT:=[.d qj,.d i64]
def zgf:Ct:=⟨PSI,[i64],fun x=>(qg8 x.1 x.2.1,()),fun _=>[]⟩
def zgk:Ct:=⟨PSI,[i64],fun x=>(qfl x.1 x.2.1,()),fun _=>[]⟩
theorem zor:qa Tryz.prog 48 zgf:=
 conv (qg zu5 (Λ:=qp) (fn:=Tryz.f48) (fr:=fun x=>Fr.need (∀ y:qi [ze],WfL [ze] y->qq ([]:List Prop)) (Fr.val (qg8 x.1 x.2.1,()))) (ps:=PSI) (rs:=[i64]) (dfP PSI) (by kernel_rfl) (fun c E _=>qd c 0) (fun x=>by kernel_rfl)) _ _ (fun _ _ _ _ _ _=>Fr.need_ (fun _ _=>trivial) ⟨trivial,rfl⟩)
theorem zo9:qa Tryz.prog 60 zgk:=
 conv (qg zu5 (Λ:=qp) (fn:=Tryz.f60) (fr:=fun x=>Fr.need (∀ y:qi [qr],WfL [qr] y->qq ([]:List Prop)) (Fr.val (qfl x.1 x.2.1,()))) (ps:=PSI) (rs:=[i64]) (dfP PSI) (by kernel_rfl) (fun c E _=>qd c 0) (fun x=>by kernel_rfl)) _ _ (fun _ _ _ _ _ _=>Fr.need_ (fun _ _=>trivial) ⟨trivial,rfl⟩)
noncomputable def yq8:Cx:=cx [(48,zgf),(60,zgk)] []
theorem zoq:CxOK Tryz.prog yq8:=zb (cs:=[(48,zgf),(60,zgk)]) (ps:=[]) qv ⟨zor,zo9,trivial⟩ trivial
def qy4:Ct:=⟨PSI,[ze,.bool],fun x=>((qi0 x.1 x.2.1).1,(qi0 x.1 x.2.1).2,()),fun _=>[]⟩
def zh8:Ct:=⟨PSI,[qr,.bool],fun x=>((qoz x.1 x.2.1).1,(qoz x.1 x.2.1).2,()),fun _=>[]⟩
theorem zhp:qa Tryz.prog 21 qy4:=
 conv (qg zoq (Λ:=qp) (fn:=Tryz.f21) (fr:=fun x=>Fr.br (decide (qg8 x.1 x.2.1 ≥ 0)) (Fr.need (0<=qg8 x.1 x.2.1/\qg8 x.1 x.2.1 < ((kw x.1).length:Int)) (Fr.val ((kw x.1).getD (qg8 x.1 x.2.1).toNat ze.dflt,true,()))) (Fr.val (ze.dflt,false,()))) (ps:=PSI) (rs:=[ze,.bool]) (dfP PSI) (by kernel_rfl) (fun c E _=>qd c 0) (fun x=>by kernel_rfl)) _ _ (fun _ _ x _ _ _=>by
  by_cases h:qg8 x.1 x.2.1 ≥ 0
  ·refine Fr.br_t (decide_eq_true h) (Fr.need_ ⟨h,(qq7 h).1⟩ ⟨trivial,?_⟩)
   show _=((qi0 x.1 x.2.1).1,(qi0 x.1 x.2.1).2,())
   unfold qi0; rw [if_pos h]; rfl
  ·refine Fr.br_f (decide_eq_false h) ⟨trivial,?_⟩
   show _=((qi0 x.1 x.2.1).1,(qi0 x.1 x.2.1).2,())
   unfold qi0; rw [if_neg h]; rfl)
theorem ybr:qa Tryz.prog 31 zh8:=
 conv (qg zoq (Λ:=qp) (fn:=Tryz.f31) (fr:=fun x=>Fr.br (decide (qfl x.1 x.2.1 ≥ 0)) (Fr.need (0<=qfl x.1 x.2.1/\qfl x.1 x.2.1 < ((xq x.1).length:Int)) (Fr.val ((xq x.1).getD (qfl x.1 x.2.1).toNat qr.dflt,true,()))) (Fr.val (qr.dflt,false,()))) (ps:=PSI) (rs:=[qr,.bool]) (dfP PSI) (by kernel_rfl) (fun c E _=>qd c 0) (fun x=>by kernel_rfl)) _ _ (fun _ _ x _ _ _=>by
  by_cases h:qfl x.1 x.2.1 ≥ 0
  ·refine Fr.br_t (decide_eq_true h) (Fr.need_ ⟨h,(qq7 h).1⟩ ⟨trivial,?_⟩)
   show _=((qoz x.1 x.2.1).1,(qoz x.1 x.2.1).2,())
   unfold qoz; rw [if_pos h]; rfl
  ·refine Fr.br_f (decide_eq_false h) ⟨trivial,?_⟩
   show _=((qoz x.1 x.2.1).1,(qoz x.1 x.2.1).2,())
   unfold qoz; rw [if_neg h]; rfl)
def qia (t:zd.den):qj.den:=(t,[],[],[],0,())
def qrr:Ct:=⟨[.d zd],[qj],fun x=>(qia x.1,()),fun _=>[]⟩
theorem zxs:qa Tryz.prog 28 qrr:=
 conv (qg xf (Λ:=qp) (fn:=Tryz.f28) (fr:=fun x=>Fr.val (qia x.1,())) (ps:=[.d zd]) (rs:=[qj]) (dfP [.d zd]) (by kernel_rfl) (fun c E _=>qd c 0) (fun x=>by kernel_rfl)) _ _ (fun _ _ _ _ _ _=>⟨trivial,rfl⟩)
def qpm (n a b:Int):Bool:=bif decide (n ≥ a) then decide (n<=b) else false
theorem zzl {n a b:Int}:qpm n a b=true↔a<=n/\n<=b:=by
 unfold qpm
 by_cases h:a<=n<;>simp [h]
abbrev zhm:List PT:=[.d i64,.d i64,.d i64]
def qae:Ct:=⟨zhm,[.bool],fun x=>(qpm x.1 x.2.1 x.2.2.1,()),fun _=>[]⟩
theorem zfk:qa Tryz.prog 59 qae:=
 conv (qg xf (Λ:=qp) (fn:=Tryz.f59) (fr:=fun x=>Fr.val (qpm x.1 x.2.1 x.2.2.1,())) (ps:=zhm) (rs:=[.bool]) (dfP zhm) (by kernel_rfl) (fun c E _=>qd c 0) (fun x=>by kernel_rfl)) _ _ (fun _ _ _ _ _ _=>⟨trivial,rfl⟩)
def yfk:Ct:=⟨[.d ju],[qr],fun x=>((x.1,[],()),()),fun _=>[]⟩
theorem yi8:qa Tryz.prog 275 yfk:=
 conv (qg xf (Λ:=qp) (fn:=Tryz.f275) (fr:=fun x=>Fr.val ((x.1,[],()),())) (ps:=[.d ju]) (rs:=[qr]) (dfP [.d ju]) (by kernel_rfl) (fun c E _=>qd c 0) (fun x=>by kernel_rfl)) _ _ (fun _ _ _ _ _ _=>⟨trivial,rfl⟩)
def zah (g:qr.den):Int:=match g.2.1.getLast? with
 |some a=>a.1
 |none=>g.1.2.2.2.2.1
def qwf (g:qr.den):Fr (qi [i64]):=Fr.br (decide (((List.length g.2.1):Int) > 0)) (Fr.need (0<=IntKind.i64.wrap (((List.length g.2.1):Int) - 1)/\IntKind.i64.wrap (((List.length g.2.1):Int) - 1) < ((List.length g.2.1):Int)) (Fr.val ((List.getD g.2.1 (IntKind.i64.wrap (((List.length g.2.1):Int) - 1)).toNat zf.dflt).1,()))) (Fr.val (g.1.2.2.2.2.1,()))
theorem yin {c:ju.den} {l:List zf.den} (hlen:(l.length:Int)<=9223372036854775807):(qwf (c,l,())).ok/\(qwf (c,l,())).get=(zah (c,l,()),()):=by
 cases l with
 |nil=>exact Fr.br_f rfl ⟨trivial,rfl⟩
 |cons a r=>
  have hw:IntKind.i64.wrap (((a :: r).length:Int) - 1)=r.length:=by
   rw [IntWalk.i64_in _ (by simp only [List.length_cons] at hlen ⊢; omega)]; simp
  unfold qwf
  refine Fr.br_t (by simp) ?_
  dsimp only
  rw [hw]
  refine Fr.need_ ⟨by omega,by simp only [List.length_cons]; omega⟩ ⟨trivial,?_⟩
  show ((List.getD (a :: r) ((r.length:Int)).toNat zf.dflt).1,())=_
  unfold zah
  rw [List.getLast?_eq_getElem?,List.getD_eq_getElem?_getD]
  have:((r.length:Int)).toNat=(a :: r).length - 1:=by simp
  rw [this,List.getElem?_eq_getElem (by simp)]
  rfl
def qy7:Ct:=⟨[.d qr],[i64],fun x=>(zah x.1,()),fun _=>[]⟩
theorem ycp:qa Tryz.prog 288 qy7:=
 conv (qg xf (Λ:=qp) (fn:=Tryz.f288) (fr:=fun x=>qwf x.1) (ps:=[.d qr]) (rs:=[i64]) (dfP [.d qr]) (by kernel_rfl) (fun c E _=>qd c 0) (fun x=>by kernel_rfl)) _ _ (fun w F x vs hr _=>by
  obtain ⟨⟨c,l,_⟩,_⟩:=x
  obtain ⟨v,vs',rfl,hv,_⟩:=hr
  have h1:l.length<=maxLen:=(qs.wf hv.2.2).2.1.1
  have hlen:(l.length:Int)<=9223372036854775807:=by
   unfold maxLen at h1
   omega
  exact yin hlen)
abbrev qwT:Ty:=.pair i64 (.pair i64 .unit)
noncomputable def CS8:Cx:=cx [] []
theorem yk6:CxOK Tryz.prog CS8:=zb (cs:=[]) (ps:=[]) qv trivial trivial
abbrev qat:Pt:=⟨24,0,⟨[(9,.d i64),(8,.d i64),(7,.d jd)],[.x 2 146 qwT,.r 2 2 0]⟩,⟨[],[]⟩,⟨[(4,.d .bool)],[]⟩⟩
def zpc (x:qat.M.X):Fr qat.Out:=
 Fr.br (decide (x.1.1 < x.1.2.1)) (Fr.need (0<=x.1.1/\x.1.1 < ((List.length x.1.2.2.1):Int)) (Fr.br (bif decide (List.getD x.1.2.2.1 (Int.toNat x.1.1) i64.dflt < x.2.1.1) then true else decide (List.getD x.1.2.2.1 (Int.toNat x.1.1) i64.dflt > x.2.1.2.1)) (Fr.val (Rd.back ((false,()),()))) (Fr.val (Rd.next ((IntKind.i64.wrap (x.1.1+1),x.1.2.1,x.1.2.2.1,()),(x.2.1.1,x.2.1.2.1,()),()))))) (Fr.val (Rd.out ((),())))
theorem yd4:qe Tryz.prog (qo Tryz.f67 0) qat.M qat zpc:=
 qe.of_run yk6 (bs:=0) (Λ:=qp) rfl rfl rfl (fun E=>qd _ 0) (fun x=>by kernel_rfl)
abbrev qnb:Type:=qm [] × jc [.x 2 146 qwT,.r 2 2 0]
def qdv (e:i64.den) (s:qnb):Fr (qnb ⊕ qat.R.X):=
 Fr.br (bif decide (e < s.2.1.1) then true else decide (e > s.2.1.2.1)) (Fr.val (.inr ((false,()),()))) (Fr.val (.inl ((),(s.2.1.1,s.2.1.2.1,()),())))
def qep (x:qat.M.X):Int × List i64.den × qnb:=(x.1.1,x.1.2.2.1,x.1.2.2.2,x.2)
def qo5 (x:qat.M.X):Prop:=x.1.2.1=(x.1.2.2.1.length:Int)
def qyq (s:qnb):qat.E.X:=((),())
def zb8:qnb:=(dfP _,dfM _)
def qqz:qat.R.X:=(dfP _,dfM _)
theorem zxl:qe Tryz.prog (.loop (qo Tryz.f67 0)) qat.M qat (FL qdv qep qo5 qyq Rd.back zb8 qqz):=by
 refine qe.list yd4 qdv qep qo5 qyq Rd.back zb8 qqz ?_ ?_
 ·rintro ⟨⟨i,n,l,s⟩,m⟩ hg h0 h1 hb e he Q h
  have hg:n=(l.length:Int):=hg
  subst hg
  have h0:0<=i:=h0
  have h1:i < (l.length:Int):=h1
  have hb:(l.length:Int)<=9223372036854775807:=hb
  have hd:l.getD i.toNat i64.dflt=e:=zr he
  have hw:=zx h0 h1 hb
  dsimp only [qep,qdv,zpc,Fr.satP] at h ⊢
  simp only [hd,hw] at h ⊢
  refine ⟨fun _=>?_,fun hn=>absurd h1 (of_decide_eq_false hn)⟩
  repeat' first
   |exact h
   |exact ⟨h0,h1⟩
   |exact fun _=>⟨h0,h1⟩
   |exact h _ rfl rfl
   |(refine ⟨fun hc=>?_,fun hc=>?_⟩<;>first | replace h:=h.1 hc | replace h:=h.2 hc)
   |(refine ⟨h.1,?_⟩; replace h:=h.2)
   |refine ⟨⟨h0,h1⟩,?_⟩
   |exact h.1
   |exact h.2.1
   |exact h.2.2.1
   |refine ⟨?_,?_⟩
   |(intro (hc:_=true); replace h:=h.1 hc)
   |(intro (hc:_=false); replace h:=h.2 hc)
   |(replace h:=h.2)
 ·rintro ⟨⟨i,n,l,s⟩,m⟩ hg h1 Q h
  have hg:n=(l.length:Int):=hg
  subst hg
  exact ⟨fun hn=>absurd (of_decide_eq_true hn) h1,fun _=>h⟩
def yoz (Γ:Gm):St->Option Tr:=qat.han Γ qat.M (FL qdv qep qo5 qyq Rd.back zb8 qqz)
def qkj (y:qat.M.X):qnb ⊕ qat.R.X:=goL qdv ((qep y).2.1.drop (qep y).1.toNat) (qep y).2.2
def ycx (y:qat.M.X):Prop:=okL qdv ((qep y).2.1.drop (qep y).1.toNat) (qep y).2.2
theorem qc3 {T σ ρ:Type} {step:T->σ->Fr (σ ⊕ ρ)}:(l:List T)->(∀ e ∈ l,∀ s,(step e s).ok)->(s:σ)->okL step l s
 |[],_,_=>trivial
 |e :: l,h,s=>⟨h e List.mem_cons_self s,by
   split
   ·exact qc3 l (fun e he=>h e (List.mem_cons_of_mem _ he)) _
   ·trivial⟩
theorem qc2 {T σ ρ:Type} {step:T->σ->Fr (σ ⊕ ρ)} {I:σ->Prop} {p:T->Bool} {c:ρ} (h:∀ e s,I s->(step e s).get=if p e=true then .inl s else .inr c):(l:List T)->(s:σ)->I s->goL step l s=if l.all p=true then .inl s else .inr c
 |[],_,_=>rfl
 |e :: l,s,hs=>by
  by_cases hp:p e=true
  ·simp only [goL,h e s hs,hp,if_true,List.all_cons,Bool.true_and]
   exact qc2 h l s hs
  ·simp only [goL,h e s hs,hp,if_false,List.all_cons,Bool.false_and,Bool.false_eq_true]
noncomputable def CS9:Cx:=cx [] []
theorem zu6:CxOK Tryz.prog CS9:=zb (cs:=[]) (ps:=[]) qv trivial trivial
def qwd (x:qm [.d qwT,.d jd]):Fr (qi [.bool]):=
 Fr.need (InL (qo5 ((0,((List.length x.2.1):Int),x.2.1,()),(x.1.1,x.1.2.1,()),())) (qep ((0,((List.length x.2.1):Int),x.2.1,()),(x.1.1,x.1.2.1,()),()))) (Fr.need (ycx ((0,((List.length x.2.1):Int),x.2.1,()),(x.1.1,x.1.2.1,()),())) (Fr.br (isL (qkj ((0,((List.length x.2.1):Int),x.2.1,()),(x.1.1,x.1.2.1,()),()))) (Fr.val (true,())) (Fr.val ((jg qqz (qkj ((0,((List.length x.2.1):Int),x.2.1,()),(x.1.1,x.1.2.1,()),()))).1.1,()))))
theorem zr8:qa Tryz.prog 67 ⟨[.d qwT,.d jd],[.bool],fun xs=>(qwd xs).get,fun xs=>[(qwd xs).ok]⟩:=
 qg zu6 (Λ:=(fun _=>yoz CS9.Γ)) (fn:=Tryz.f67) (dfP [.d qwT,.d jd]) (by kernel_rfl) (fun c E hc=>yz hc (by kernel_rfl) (b:=qo Tryz.f67 0) (by kernel_rfl) (qe.han zu6 rfl zxl)) (fun x=>by kernel_rfl)
def zkj (a b:Int) (l:List Int):Bool:=l.all fun x=>decide (a<=x)&&decide (x<=b)
def qcy:Ct:=⟨[.d qwT,.d jd],[.bool],fun x=>(zkj x.1.1 x.1.2.1 x.2.1,()),fun _=>[]⟩
theorem ymr (a b:Int) (l:List Int):goL qdv l ((),(a,b,()),())=if zkj a b l=true then .inl ((),(a,b,()),()) else .inr ((false,()),()):=
 qc2 (I:=fun s=>s=((),(a,b,()),())) (fun e s hs=>by
  subst hs
  by_cases h1:e < a
  ·rw [if_neg (by simp; omega)]
   exact if_pos (by simp [h1])
  ·by_cases h2:e > b
   ·rw [if_neg (by simp; omega)]
    exact if_pos (by simp [h2])
   ·rw [if_pos (by simp; omega)]
    exact if_neg (by simp; omega)) l _ rfl
theorem yms:qa Tryz.prog 67 qcy:=
 conv zr8 _ _ (fun w F x vs hr _=>by
  obtain ⟨⟨a,b,_⟩,l,_⟩:=x
  obtain ⟨v,vs',rfl,hv,hr'⟩:=hr
  obtain ⟨v',vs'',rfl,hv',_⟩:=hr'
  have hlen:((List.length (α:=Int) l:Nat):Int)<=9223372036854775807:=qcg hv'
  show (qwd ((a,b,()),l,())).ok/\(qwd ((a,b,()),l,())).get=(zkj a b l,())
  refine Fr.need_ ⟨rfl,Int.le_refl _,Int.natCast_nonneg _,hlen⟩ (Fr.need_ (qc3 (step:=qdv) _ (fun e _ s=>⟨fun _=>trivial,fun _=>trivial⟩) _) ?_)
  have hg:qkj ((0,((List.length (α:=Int) l:Nat):Int),l,()),(a,b,()),())=if zkj a b l=true then .inl ((),(a,b,()),()) else .inr ((false,()),()):=by
   show goL qdv (List.drop 0 l) ((),(a,b,()),())=_
   rw [List.drop_zero,ymr]
  cases hc:zkj a b l
  ·rw [hc,if_neg (by decide)] at hg
   refine Fr.br_f (by show isL (qkj ((0,((List.length (α:=Int) l:Nat):Int),l,()),(a,b,()),()))=false; rw [hg]; rfl) ⟨trivial,?_⟩
   show ((jg qqz (qkj ((0,((List.length (α:=Int) l:Nat):Int),l,()),(a,b,()),()))).1.1,())=_
   rw [hg]
   rfl
  ·rw [hc,if_pos rfl] at hg
   exact Fr.br_t (by show isL (qkj ((0,((List.length (α:=Int) l:Nat):Int),l,()),(a,b,()),()))=true; rw [hg]; rfl) ⟨trivial,rfl⟩)
noncomputable def yqp:Cx:=cx [(67,qcy),(68,qnj),(43,cIn),(59,qae)] []
theorem qqi:CxOK Tryz.prog yqp:=zb (cs:=[(67,qcy),(68,qnj),(43,cIn),(59,qae)]) (ps:=[]) qv ⟨yms,zk1,qnu,zfk,trivial⟩ trivial
def qli (x:qm [.d qf]):Fr (qi [.bool]):=
 Fr.br (!(qcy.f ((1,1000000000,()),[x.1.1],())).1) (Fr.br true (Fr.val (false,())) (Fr.br (x.1.2.1==1) (Fr.br (qcy.f ((1,10000,()),[x.1.2.2.2.1],())).1 (Fr.val ((qcy.f ((0,0,()),[x.1.2.2.2.2.1,x.1.2.2.2.2.2.1,x.1.2.2.2.2.2.2.1],())).1,())) (Fr.val (false,()))) (Fr.br (x.1.2.1==2) (Fr.br (x.1.2.1==2) (Fr.br (x.1.2.2.2.1==0) (Fr.br (qcy.f ((0,1000000000000000,()),[x.1.2.2.2.2.1,x.1.2.2.2.2.2.1],())).1 (Fr.br (decide (x.1.2.2.2.2.2.1 > 0)) (Fr.val ((qcy.f ((0,100,()),[x.1.2.2.2.2.2.2.1],())).1,())) (Fr.val (false,()))) (Fr.val (false,()))) (Fr.val (false,()))) (Fr.val (false,()))) (Fr.br (x.1.2.1==3) (Fr.br (x.1.2.2.2.1==0) (Fr.br (qcy.f ((0,1000000000000000,()),[x.1.2.2.2.2.1,x.1.2.2.2.2.2.1],())).1 (Fr.br (decide (x.1.2.2.2.2.2.1 > 0)) (Fr.val ((qcy.f ((0,100,()),[x.1.2.2.2.2.2.2.1],())).1,())) (Fr.val (false,()))) (Fr.val (false,()))) (Fr.val (false,()))) (Fr.val (false,())))))) (Fr.br ((qnj.f ((x.1.2.2.1.1,x.1.2.2.1.2.1,()),())).1==0) (Fr.br true (Fr.val (false,())) (Fr.br (x.1.2.1==1) (Fr.br (qcy.f ((1,10000,()),[x.1.2.2.2.1],())).1 (Fr.val ((qcy.f ((0,0,()),[x.1.2.2.2.2.1,x.1.2.2.2.2.2.1,x.1.2.2.2.2.2.2.1],())).1,())) (Fr.val (false,()))) (Fr.br (x.1.2.1==2) (Fr.br (x.1.2.1==2) (Fr.br (x.1.2.2.2.1==0) (Fr.br (qcy.f ((0,1000000000000000,()),[x.1.2.2.2.2.1,x.1.2.2.2.2.2.1],())).1 (Fr.br (decide (x.1.2.2.2.2.2.1 > 0)) (Fr.val ((qcy.f ((0,100,()),[x.1.2.2.2.2.2.2.1],())).1,())) (Fr.val (false,()))) (Fr.val (false,()))) (Fr.val (false,()))) (Fr.val (false,()))) (Fr.br (x.1.2.1==3) (Fr.br (x.1.2.2.2.1==0) (Fr.br (qcy.f ((0,1000000000000000,()),[x.1.2.2.2.2.1,x.1.2.2.2.2.2.1],())).1 (Fr.br (decide (x.1.2.2.2.2.2.1 > 0)) (Fr.val ((qcy.f ((0,100,()),[x.1.2.2.2.2.2.2.1],())).1,())) (Fr.val (false,()))) (Fr.val (false,()))) (Fr.val (false,()))) (Fr.val (false,())))))) (Fr.br (!(qcy.f ((1,255,()),[x.1.2.2.2.2.2.2.2.1],())).1) (Fr.val (false,())) (Fr.br (x.1.2.1==1) (Fr.br (qcy.f ((1,10000,()),[x.1.2.2.2.1],())).1 (Fr.val ((qcy.f ((0,0,()),[x.1.2.2.2.2.1,x.1.2.2.2.2.2.1,x.1.2.2.2.2.2.2.1],())).1,())) (Fr.val (false,()))) (Fr.br (x.1.2.1==2) (Fr.br (x.1.2.1==2) (Fr.br (x.1.2.2.2.1==0) (Fr.br (qcy.f ((0,1000000000000000,()),[x.1.2.2.2.2.1,x.1.2.2.2.2.2.1],())).1 (Fr.br (decide (x.1.2.2.2.2.2.1 > 0)) (Fr.val ((qcy.f ((0,100,()),[x.1.2.2.2.2.2.2.1],())).1,())) (Fr.val (false,()))) (Fr.val (false,()))) (Fr.val (false,()))) (Fr.val (false,()))) (Fr.br (x.1.2.1==3) (Fr.br (x.1.2.2.2.1==0) (Fr.br (qcy.f ((0,1000000000000000,()),[x.1.2.2.2.2.1,x.1.2.2.2.2.2.1],())).1 (Fr.br (decide (x.1.2.2.2.2.2.1 > 0)) (Fr.val ((qcy.f ((0,100,()),[x.1.2.2.2.2.2.2.1],())).1,())) (Fr.val (false,()))) (Fr.val (false,()))) (Fr.val (false,()))) (Fr.val (false,())))))))
theorem zji:qa Tryz.prog 41 ⟨[.d qf],[.bool],fun xs=>(qli xs).get,fun xs=>[(qli xs).ok]⟩:=
 qg qqi (Λ:=qp) (fn:=Tryz.f41) (dfP [.d qf]) (by kernel_rfl) (fun c E _=>qd c 0) (fun x=>by kernel_rfl)
def qx6 (x:qm [.d ju]):Fr (qi [.bool]):=
 Fr.val (bif bif bif bif (qae.f (x.1.1,1,1000000000,())).1 then (qae.f (x.1.2.1,1,1000000000,())).1 else false then (qae.f (x.1.2.2.2.2.2.1,0,1000000000,())).1 else false then bif (qae.f (x.1.2.2.2.1,1,292194,())).1 then (qae.f (x.1.2.2.2.2.1,1,292194,())).1 else false else false then (qae.f (x.1.2.2.1,0,7,())).1 else false,())
theorem znb:qa Tryz.prog 100 ⟨[.d ju],[.bool],fun xs=>(qx6 xs).get,fun xs=>[(qx6 xs).ok]⟩:=
 qg qqi (Λ:=qp) (fn:=Tryz.f100) (dfP [.d ju]) (by kernel_rfl) (fun c E _=>qd c 0) (fun x=>by kernel_rfl)
def qlh (x:qm [.d zf]):Fr (qi [.bool]):=
 Fr.br (bif x.1.2.1==4 then true else x.1.2.1==5) (Fr.val (bif bif (qae.f (x.1.1,1,292194,())).1 then (qae.f (x.1.2.1,1,5,())).1 else false then (qae.f (x.1.2.2.1,0,0,())).1 else false,())) (Fr.val (bif bif (qae.f (x.1.1,1,292194,())).1 then (qae.f (x.1.2.1,1,5,())).1 else false then (qae.f (x.1.2.2.1,0,1000000000000000,())).1 else false,()))
theorem zjd:qa Tryz.prog 27 ⟨[.d zf],[.bool],fun xs=>(qlh xs).get,fun xs=>[(qlh xs).ok]⟩:=
 qg qqi (Λ:=qp) (fn:=Tryz.f27) (dfP [.d zf]) (by kernel_rfl) (fun c E _=>qd c 0) (fun x=>by kernel_rfl)
def zce (x:qm [.d factT]):Fr (qi [.bool]):=
 Fr.val (bif bif bif bif bif bif bif bif bif bif bif bif bif bif ((List.length x.1.2.2.2.2.2.2.1.2.2.2.2.1):Int)==0 then ((List.length x.1.2.2.2.2.2.1.2.2.1):Int)==0 else false then x.1.2.2.1==0 else false then x.1.2.2.2.1==0 else false then x.1.2.2.2.2.1==0 else false then x.1.2.2.2.2.2.1.1.1==0&&(x.1.2.2.2.2.2.1.1.2.1==0&&true) else false then x.1.2.2.2.2.2.1.2.1.1==0&&(x.1.2.2.2.2.2.1.2.1.2.1==0&&(x.1.2.2.2.2.2.1.2.1.2.2.1==0&&(x.1.2.2.2.2.2.1.2.1.2.2.2.1==0&&true))) else false then x.1.2.2.2.2.2.2.1.1==0 else false then x.1.2.2.2.2.2.2.1.2.1==0 else false then x.1.2.2.2.2.2.2.1.2.2.1==0 else false then x.1.2.2.2.2.2.2.1.2.2.2.2.2.1==0 else false then x.1.2.2.2.2.2.2.1.2.2.2.1.1==0&&(x.1.2.2.2.2.2.2.1.2.2.2.1.2.1==0&&(x.1.2.2.2.2.2.2.1.2.2.2.1.2.2.1==0&&(x.1.2.2.2.2.2.2.1.2.2.2.1.2.2.2.1==0&&true))) else false then x.1.2.2.2.2.2.2.2.1.1==0&&(x.1.2.2.2.2.2.2.2.1.2.1==0&&(x.1.2.2.2.2.2.2.2.1.2.2.1==0&&(x.1.2.2.2.2.2.2.2.1.2.2.2.1==0&&(x.1.2.2.2.2.2.2.2.1.2.2.2.2.1==0&&(x.1.2.2.2.2.2.2.2.1.2.2.2.2.2.1==0&&true))))) else false then x.1.2.2.2.2.2.2.2.2.1.1==0&&(x.1.2.2.2.2.2.2.2.2.1.2.1==0&&(x.1.2.2.2.2.2.2.2.2.1.2.2.1==0&&true)) else false then x.1.2.2.2.2.2.2.2.2.2.1.1==0&&(x.1.2.2.2.2.2.2.2.2.2.1.2.1==0&&(x.1.2.2.2.2.2.2.2.2.2.1.2.2.1.1==0&&(x.1.2.2.2.2.2.2.2.2.2.1.2.2.1.2.1==0&&true)&&(x.1.2.2.2.2.2.2.2.2.2.1.2.2.2.1==0&&(x.1.2.2.2.2.2.2.2.2.2.1.2.2.2.2.1==0&&(x.1.2.2.2.2.2.2.2.2.2.1.2.2.2.2.2.1==0&&(x.1.2.2.2.2.2.2.2.2.2.1.2.2.2.2.2.2.1==0&&(x.1.2.2.2.2.2.2.2.2.2.1.2.2.2.2.2.2.2.1==0&&true))))))) else false,())
theorem zr2:qa Tryz.prog 97 ⟨[.d factT],[.bool],fun xs=>(zce xs).get,fun xs=>[(zce xs).ok]⟩:=
 qg qqi (Λ:=qp) (fn:=Tryz.f97) (dfP [.d factT]) (by kernel_rfl) (fun c E _=>qd c 0) (fun x=>by kernel_rfl)
def zcj (x:qm [.d qf,.d i64,.d i64]):Fr (qi [i64]):=
 Fr.need ((bif x.1.2.1 != 1 then true else !(cIn.f ((x.1.2.2.1.1,x.1.2.2.1.2.1,()),x.2.1,())).1)=false->¬x.2.2.1 < 0) (Fr.br (bif bif x.1.2.1 != 1 then true else !(cIn.f ((x.1.2.2.1.1,x.1.2.2.1.2.1,()),x.2.1,())).1 then true else IntKind.i64.wrap ((BitVec.ofInt IntKind.i64.bits (Int.fdiv x.1.2.2.2.2.2.2.2.1 (2 ^ min (Int.toNat x.2.2.1) IntKind.i64.bits)) &&& BitVec.ofInt IntKind.i64.bits 1).toNat:Int)==0) (Fr.val (0,())) (Fr.val (x.1.2.2.2.1,())))
theorem zr7:qa Tryz.prog 307 ⟨[.d qf,.d i64,.d i64],[i64],fun xs=>(zcj xs).get,fun xs=>[(zcj xs).ok]⟩:=
 qg qqi (Λ:=qp) (fn:=Tryz.f307) (dfP [.d qf,.d i64,.d i64]) (by kernel_rfl) (fun c E _=>qd c 0) (fun x=>by kernel_rfl)
def zp1 (t:qf.den):Bool:=(qli (t,())).get.1
def zvk (c:ju.den):Bool:=(qx6 (c,())).get.1
def qm0 (a:zf.den):Bool:=(qlh (a,())).get.1
def qy2 (f:factT.den):Bool:=(zce (f,())).get.1
def zg2 (t:qf.den) (day peril:Int):Int:=(zcj (t,day,peril,())).get.1
def zb2:Ct:=⟨[.d qf],[.bool],fun x=>(zp1 x.1,()),fun _=>[]⟩
def zh1:Ct:=⟨[.d ju],[.bool],fun x=>(zvk x.1,()),fun _=>[]⟩
def qmy:Ct:=⟨[.d zf],[.bool],fun x=>(qm0 x.1,()),fun _=>[]⟩
def zgg:Ct:=⟨[.d factT],[.bool],fun x=>(qy2 x.1,()),fun _=>[]⟩
def qy9:Ct:=⟨[.d qf,.d i64,.d i64],[i64],fun x=>(zg2 x.1 x.2.1 x.2.2.1,()),fun x=>[¬ x.2.2.1 < 0]⟩
theorem zyc:qa Tryz.prog 41 zb2:=conv zji _ _ (fun _ _ x _ _ _=>⟨by show (qli x).ok; unfold qli; (repeat' first | exact trivial | (refine ⟨fun _=>?_,fun _=>?_⟩)),rfl⟩)
theorem yas:qa Tryz.prog 100 zh1:=conv znb _ _ (fun _ _ x _ _ _=>⟨trivial,rfl⟩)
theorem zdp:qa Tryz.prog 27 qmy:=conv zjd _ _ (fun _ _ x _ _ _=>⟨by show (qlh x).ok; unfold qlh; (repeat' first | exact trivial | (refine ⟨fun _=>?_,fun _=>?_⟩)),rfl⟩)
theorem yg6:qa Tryz.prog 97 zgg:=conv zr2 _ _ (fun _ _ x _ _ _=>⟨trivial,rfl⟩)
theorem yjb:qa Tryz.prog 307 qy9:=conv zr7 _ _ (fun _ _ x _ _ h=>⟨⟨fun _=>h,by (repeat' first | exact trivial | (refine ⟨fun _=>?_,fun _=>?_⟩))⟩,rfl⟩)
end Go.Proofs.YtgieagiaagoogaaGreat
namespace Go.Proofs.YtgieagiaagoogaaGreat
open Go Go.Ab Go.RowKit Go.Proofs Go.Shelf Go.Lib
abbrev wq:Ty:=.pair i64 (.pair i64 (.pair i64 (.pair i64 (.pair i64 (.pair .bool .unit)))))
theorem qrb {w:World} {F:Nat->Prop} {x:wq.den} {arr:Array Value} (hs:arr.size=wq.size) (h:qs w F wq x (fun j u=>arr[j]? = some u)) :
  arr = #[.int .i64 x.1,.int .i64 x.2.1,.int .i64 x.2.2.1,.int .i64 x.2.2.2.1,.int .i64 x.2.2.2.2.1,.bool x.2.2.2.2.2.1]:=by
 obtain ⟨h0,h1,h2,h3,h4,h5,_⟩:=h
 refine Array.ext_getElem? fun j=>?_
 match j with
 |0=>exact h0.1
 |1=>exact h1.1
 |2=>exact h2.1
 |3=>exact h3.1
 |4=>exact h4.1
 |5=>exact h5
 |j+6=>
  rw [Array.getElem?_eq_none (by rw [hs]; show 6<=j+6; omega)]
  simp
theorem qbe {w:World} {F:Nat->Prop} {x:wq.den} (h0:inR .i64 x.1) (h1:inR .i64 x.2.1) (h2:inR .i64 x.2.2.1) (h3:inR .i64 x.2.2.2.1) (h4:inR .i64 x.2.2.2.2.1) :
  qs w F wq x (fun j u=>[Value.int .i64 x.1,.int .i64 x.2.1,.int .i64 x.2.2.1,.int .i64 x.2.2.2.1,.int .i64 x.2.2.2.2.1,.bool x.2.2.2.2.2.1][j]? = some u):=
 ⟨⟨rfl,h0⟩,⟨rfl,h1⟩,⟨rfl,h2⟩,⟨rfl,h3⟩,⟨rfl,h4⟩,rfl,trivial⟩
theorem qm6 {w:World} {F:Nat->Prop} {y:qi [i64]} {vs:List Value} (h:xz w F [i64] y vs):vs=[.int .i64 y.1]/\inR .i64 y.1:=by
 obtain ⟨v,vs',rfl,⟨_,hw,h3⟩,h4⟩:=h
 have h4:vs'=[]:=h4
 subst h4
 obtain ⟨h5,h6⟩:v.cells[0]? = some (Value.int .i64 y.1)/\inR .i64 y.1:=h3
 have hv:v.cells = #[v]:=by
  cases v<;>first | rfl | (exact absurd (hw.2 ⟨_,rfl⟩) (by decide))
 rw [hv] at h5
 cases h5
 exact ⟨rfl,h6⟩
theorem qj4 {w:World} {b:Nat} {arr:Array Value} {ty:TypeId} (hg:w.heap[b]? = some (.cells arr ty (0,0))) (k:Nat):w.cell? ⟨b,k,none⟩=arr[k]? := by
 simp [World.cell?,hg]
theorem qlj {w:World} {b:Nat} {arr:Array Value} {ty:TypeId} (hg:w.heap[b]? = some (.cells arr ty (0,0))) (k:Nat):w.frozen? ⟨b,k,none⟩=false:=by
 simp [World.frozen?,hg]
set_option maxHeartbeats 4000000 in
set_option maxRecDepth 100000 in
theorem yb2:UpdOK Tryz.prog 290 wq [i64] (fun x y=>(y.1,x.2.1,x.2.2.1,x.2.2.2.1,x.2.2.2.2.1,x.2.2.2.2.2.1,())):=by
 refine ⟨enters_of Tryz.func290 (by kernel_rfl) rfl,fun w F b ety arr x y vs hg hs ho hx hy=>?_⟩
 obtain ⟨rfl,hr⟩:=qm6 hy
 have ha:=qrb hs hx
 subst ha
 go_enter Tryz.func290,Tryz.ntmps290
 have hc:=qj4 hg
 have hf:=qlj hg
 obtain ⟨h0,h1,h2,h3,h4,h5,_⟩:=hx
 go_wp2_with (simp only [hc,hf])
 first
  |exact ⟨⟨_,rfl⟩,[.int .i64 y.1,.int .i64 x.2.1,.int .i64 x.2.2.1,.int .i64 x.2.2.2.1,.int .i64 x.2.2.2.2.1,.bool x.2.2.2.2.2.1],rfl,(setCell_eq_setRow w b 0 _ ety (0,0) _ hg).trans (by simp [wrap64,IntKind.wrap_i64]),qbe (x:=(y.1,x.2.1,x.2.2.1,x.2.2.2.1,x.2.2.2.2.1,x.2.2.2.2.2.1,())) (hr) (h1.2) (h2.2) (h3.2) (h4.2)⟩
  |exact ⟨.tuple #[],[.int .i64 y.1,.int .i64 x.2.1,.int .i64 x.2.2.1,.int .i64 x.2.2.2.1,.int .i64 x.2.2.2.2.1,.bool x.2.2.2.2.2.1],rfl,rfl,(setCell_eq_setRow w b 0 _ ety (0,0) _ hg).trans (by simp [wrap64,IntKind.wrap_i64]),qbe (x:=(y.1,x.2.1,x.2.2.1,x.2.2.2.1,x.2.2.2.2.1,x.2.2.2.2.2.1,())) (hr) (h1.2) (h2.2) (h3.2) (h4.2)⟩
  |exact bodyPost_end (v:=.tuple #[]) (results_none rfl _ _ _) rfl ⟨⟨_,rfl⟩,[.int .i64 y.1,.int .i64 x.2.1,.int .i64 x.2.2.1,.int .i64 x.2.2.2.1,.int .i64 x.2.2.2.2.1,.bool x.2.2.2.2.2.1],rfl,(setCell_eq_setRow w b 0 _ ety (0,0) _ hg).trans (by simp [wrap64,IntKind.wrap_i64]),qbe (x:=(y.1,x.2.1,x.2.2.1,x.2.2.2.1,x.2.2.2.2.1,x.2.2.2.2.2.1,())) (hr) (h1.2) (h2.2) (h3.2) (h4.2)⟩
set_option maxHeartbeats 4000000 in
set_option maxRecDepth 100000 in
theorem yn2:UpdOK Tryz.prog 291 wq [i64] (fun x y=>(x.1,IntKind.i64.wrap (x.2.1+y.1),x.2.2.1,x.2.2.2.1,x.2.2.2.2.1,x.2.2.2.2.2.1,())):=by
 refine ⟨enters_of Tryz.func291 (by kernel_rfl) rfl,fun w F b ety arr x y vs hg hs ho hx hy=>?_⟩
 obtain ⟨rfl,hr⟩:=qm6 hy
 have ha:=qrb hs hx
 subst ha
 go_enter Tryz.func291,Tryz.ntmps291
 have hc:=qj4 hg
 have hf:=qlj hg
 obtain ⟨h0,h1,h2,h3,h4,h5,_⟩:=hx
 go_wp2_with (simp only [hc,hf])
 first
  |exact ⟨⟨_,rfl⟩,[.int .i64 x.1,.int .i64 (IntKind.i64.wrap (x.2.1+y.1)),.int .i64 x.2.2.1,.int .i64 x.2.2.2.1,.int .i64 x.2.2.2.2.1,.bool x.2.2.2.2.2.1],rfl,(setCell_eq_setRow w b 1 _ ety (0,0) _ hg).trans (by simp [wrap64,IntKind.wrap_i64]),qbe (x:=(x.1,IntKind.i64.wrap (x.2.1+y.1),x.2.2.1,x.2.2.2.1,x.2.2.2.2.1,x.2.2.2.2.2.1,())) (h0.2) (wl .i64 _) (h2.2) (h3.2) (h4.2)⟩
  |exact ⟨.tuple #[],[.int .i64 x.1,.int .i64 (IntKind.i64.wrap (x.2.1+y.1)),.int .i64 x.2.2.1,.int .i64 x.2.2.2.1,.int .i64 x.2.2.2.2.1,.bool x.2.2.2.2.2.1],rfl,rfl,(setCell_eq_setRow w b 1 _ ety (0,0) _ hg).trans (by simp [wrap64,IntKind.wrap_i64]),qbe (x:=(x.1,IntKind.i64.wrap (x.2.1+y.1),x.2.2.1,x.2.2.2.1,x.2.2.2.2.1,x.2.2.2.2.2.1,())) (h0.2) (wl .i64 _) (h2.2) (h3.2) (h4.2)⟩
  |exact bodyPost_end (v:=.tuple #[]) (results_none rfl _ _ _) rfl ⟨⟨_,rfl⟩,[.int .i64 x.1,.int .i64 (IntKind.i64.wrap (x.2.1+y.1)),.int .i64 x.2.2.1,.int .i64 x.2.2.2.1,.int .i64 x.2.2.2.2.1,.bool x.2.2.2.2.2.1],rfl,(setCell_eq_setRow w b 1 _ ety (0,0) _ hg).trans (by simp [wrap64,IntKind.wrap_i64]),qbe (x:=(x.1,IntKind.i64.wrap (x.2.1+y.1),x.2.2.1,x.2.2.2.1,x.2.2.2.2.1,x.2.2.2.2.2.1,())) (h0.2) (wl .i64 _) (h2.2) (h3.2) (h4.2)⟩
set_option maxHeartbeats 4000000 in
set_option maxRecDepth 100000 in
theorem ztu:UpdOK Tryz.prog 292 wq [i64] (fun x y=>(x.1,x.2.1,x.2.2.1,IntKind.i64.wrap (x.2.2.2.1+y.1),x.2.2.2.2.1,x.2.2.2.2.2.1,())):=by
 refine ⟨enters_of Tryz.func292 (by kernel_rfl) rfl,fun w F b ety arr x y vs hg hs ho hx hy=>?_⟩
 obtain ⟨rfl,hr⟩:=qm6 hy
 have ha:=qrb hs hx
 subst ha
 go_enter Tryz.func292,Tryz.ntmps292
 have hc:=qj4 hg
 have hf:=qlj hg
 obtain ⟨h0,h1,h2,h3,h4,h5,_⟩:=hx
 go_wp2_with (simp only [hc,hf])
 first
  |exact ⟨⟨_,rfl⟩,[.int .i64 x.1,.int .i64 x.2.1,.int .i64 x.2.2.1,.int .i64 (IntKind.i64.wrap (x.2.2.2.1+y.1)),.int .i64 x.2.2.2.2.1,.bool x.2.2.2.2.2.1],rfl,(setCell_eq_setRow w b 3 _ ety (0,0) _ hg).trans (by simp [wrap64,IntKind.wrap_i64]),qbe (x:=(x.1,x.2.1,x.2.2.1,IntKind.i64.wrap (x.2.2.2.1+y.1),x.2.2.2.2.1,x.2.2.2.2.2.1,())) (h0.2) (h1.2) (h2.2) (wl .i64 _) (h4.2)⟩
  |exact ⟨.tuple #[],[.int .i64 x.1,.int .i64 x.2.1,.int .i64 x.2.2.1,.int .i64 (IntKind.i64.wrap (x.2.2.2.1+y.1)),.int .i64 x.2.2.2.2.1,.bool x.2.2.2.2.2.1],rfl,rfl,(setCell_eq_setRow w b 3 _ ety (0,0) _ hg).trans (by simp [wrap64,IntKind.wrap_i64]),qbe (x:=(x.1,x.2.1,x.2.2.1,IntKind.i64.wrap (x.2.2.2.1+y.1),x.2.2.2.2.1,x.2.2.2.2.2.1,())) (h0.2) (h1.2) (h2.2) (wl .i64 _) (h4.2)⟩
  |exact bodyPost_end (v:=.tuple #[]) (results_none rfl _ _ _) rfl ⟨⟨_,rfl⟩,[.int .i64 x.1,.int .i64 x.2.1,.int .i64 x.2.2.1,.int .i64 (IntKind.i64.wrap (x.2.2.2.1+y.1)),.int .i64 x.2.2.2.2.1,.bool x.2.2.2.2.2.1],rfl,(setCell_eq_setRow w b 3 _ ety (0,0) _ hg).trans (by simp [wrap64,IntKind.wrap_i64]),qbe (x:=(x.1,x.2.1,x.2.2.1,IntKind.i64.wrap (x.2.2.2.1+y.1),x.2.2.2.2.1,x.2.2.2.2.2.1,())) (h0.2) (h1.2) (h2.2) (wl .i64 _) (h4.2)⟩
set_option maxHeartbeats 4000000 in
set_option maxRecDepth 100000 in
theorem yay:UpdOK Tryz.prog 293 wq [i64] (fun x y=>(x.1,x.2.1,x.2.2.1,x.2.2.2.1,x.2.2.2.2.1,false,())):=by
 refine ⟨enters_of Tryz.func293 (by kernel_rfl) rfl,fun w F b ety arr x y vs hg hs ho hx hy=>?_⟩
 obtain ⟨rfl,hr⟩:=qm6 hy
 have ha:=qrb hs hx
 subst ha
 go_enter Tryz.func293,Tryz.ntmps293
 have hc:=qj4 hg
 have hf:=qlj hg
 obtain ⟨h0,h1,h2,h3,h4,h5,_⟩:=hx
 go_wp2_with (simp only [hc,hf])
 first
  |exact ⟨⟨_,rfl⟩,[.int .i64 x.1,.int .i64 x.2.1,.int .i64 x.2.2.1,.int .i64 x.2.2.2.1,.int .i64 x.2.2.2.2.1,.bool false],rfl,(setCell_eq_setRow w b 5 _ ety (0,0) _ hg).trans (by simp [wrap64,IntKind.wrap_i64]),qbe (x:=(x.1,x.2.1,x.2.2.1,x.2.2.2.1,x.2.2.2.2.1,false,())) (h0.2) (h1.2) (h2.2) (h3.2) (h4.2)⟩
  |exact ⟨.tuple #[],[.int .i64 x.1,.int .i64 x.2.1,.int .i64 x.2.2.1,.int .i64 x.2.2.2.1,.int .i64 x.2.2.2.2.1,.bool false],rfl,rfl,(setCell_eq_setRow w b 5 _ ety (0,0) _ hg).trans (by simp [wrap64,IntKind.wrap_i64]),qbe (x:=(x.1,x.2.1,x.2.2.1,x.2.2.2.1,x.2.2.2.2.1,false,())) (h0.2) (h1.2) (h2.2) (h3.2) (h4.2)⟩
  |exact bodyPost_end (v:=.tuple #[]) (results_none rfl _ _ _) rfl ⟨⟨_,rfl⟩,[.int .i64 x.1,.int .i64 x.2.1,.int .i64 x.2.2.1,.int .i64 x.2.2.2.1,.int .i64 x.2.2.2.2.1,.bool false],rfl,(setCell_eq_setRow w b 5 _ ety (0,0) _ hg).trans (by simp [wrap64,IntKind.wrap_i64]),qbe (x:=(x.1,x.2.1,x.2.2.1,x.2.2.2.1,x.2.2.2.2.1,false,())) (h0.2) (h1.2) (h2.2) (h3.2) (h4.2)⟩
set_option maxHeartbeats 4000000 in
set_option maxRecDepth 100000 in
theorem zye:UpdOK Tryz.prog 294 wq [i64] (fun x y=>(x.1,x.2.1,x.2.2.1,x.2.2.2.1,x.2.2.2.2.1,true,())):=by
 refine ⟨enters_of Tryz.func294 (by kernel_rfl) rfl,fun w F b ety arr x y vs hg hs ho hx hy=>?_⟩
 obtain ⟨rfl,hr⟩:=qm6 hy
 have ha:=qrb hs hx
 subst ha
 go_enter Tryz.func294,Tryz.ntmps294
 have hc:=qj4 hg
 have hf:=qlj hg
 obtain ⟨h0,h1,h2,h3,h4,h5,_⟩:=hx
 go_wp2_with (simp only [hc,hf])
 first
  |exact ⟨⟨_,rfl⟩,[.int .i64 x.1,.int .i64 x.2.1,.int .i64 x.2.2.1,.int .i64 x.2.2.2.1,.int .i64 x.2.2.2.2.1,.bool true],rfl,(setCell_eq_setRow w b 5 _ ety (0,0) _ hg).trans (by simp [wrap64,IntKind.wrap_i64]),qbe (x:=(x.1,x.2.1,x.2.2.1,x.2.2.2.1,x.2.2.2.2.1,true,())) (h0.2) (h1.2) (h2.2) (h3.2) (h4.2)⟩
  |exact ⟨.tuple #[],[.int .i64 x.1,.int .i64 x.2.1,.int .i64 x.2.2.1,.int .i64 x.2.2.2.1,.int .i64 x.2.2.2.2.1,.bool true],rfl,rfl,(setCell_eq_setRow w b 5 _ ety (0,0) _ hg).trans (by simp [wrap64,IntKind.wrap_i64]),qbe (x:=(x.1,x.2.1,x.2.2.1,x.2.2.2.1,x.2.2.2.2.1,true,())) (h0.2) (h1.2) (h2.2) (h3.2) (h4.2)⟩
  |exact bodyPost_end (v:=.tuple #[]) (results_none rfl _ _ _) rfl ⟨⟨_,rfl⟩,[.int .i64 x.1,.int .i64 x.2.1,.int .i64 x.2.2.1,.int .i64 x.2.2.2.1,.int .i64 x.2.2.2.2.1,.bool true],rfl,(setCell_eq_setRow w b 5 _ ety (0,0) _ hg).trans (by simp [wrap64,IntKind.wrap_i64]),qbe (x:=(x.1,x.2.1,x.2.2.1,x.2.2.2.1,x.2.2.2.2.1,true,())) (h0.2) (h1.2) (h2.2) (h3.2) (h4.2)⟩
def esF:List (Int × TypeId):=[(1,173),(2,175),(3,177),(4,178),(5,179),(6,180),(7,218)]
def ofV (k:Int):Value:=match yw esF k with
 |some ty=>.iface ty (.agg #[])
 |none=>.nilIface
theorem qyg {k:Int} (h:k < 1 ∨ k > 7):yw esF k=none:=by
 have:esF.find? (fun x=>x.1==k)=none:=by
  rw [List.find?_eq_none]
  intro x hx
  simp only [esF,List.mem_cons,List.not_mem_nil,or_false] at hx
  rcases hx with rfl | rfl | rfl | rfl | rfl | rfl | rfl<;>simp<;>omega
 unfold yw
 rw [this]
 rfl
theorem za9 {k:Int} (h:1<=k/\k<=7):k=1 ∨ k=2 ∨ k=3 ∨ k=4 ∨ k=5 ∨ k=6 ∨ k=7:=by omega
set_option maxHeartbeats 4000000 in
set_option maxRecDepth 100000 in
theorem yhv (k:Int) (R:Ending->World->Prop) (w:World) (hR:∀ o,R (.returned (ofV k)) (w.alloc o)):Calls Tryz.prog 96 #[.int .i64 k] w R:=by
 go_enter Tryz.func96,Tryz.ntmps96
 by_cases h1:k < 1
 ·have hz:ofV k = .nilIface:=by unfold ofV; rw [qyg (.inl h1)]
  rw [hz] at hR
  go_wp2
  exact hR _
 ·by_cases h2:k > 7
  ·have hz:ofV k = .nilIface:=by unfold ofV; rw [qyg (.inr h2)]
   rw [hz] at hR
   go_wp2
   exact hR _
  ·rcases za9 (k:=k) (by omega) with rfl | rfl | rfl | rfl | rfl | rfl | rfl
   all_goals
    go_wp2
    exact hR _
theorem zel {w:World} {F:Nat->Prop} {es:List (Int × TypeId)} {t:Ty} {x:Int × t.den} {ty:TypeId} {u:Value} (h:yw es x.1=some ty) (hu:zt w F t x.2 u):zt w F (.ic es t) x (.iface ty u):=
 ⟨rfl,⟨fun h=>(by cases h),fun h=>(by obtain ⟨_,h⟩:=h; cases h)⟩,.inl ⟨ty,u,h,rfl,hu⟩⟩
theorem zao {w:World} {F:Nat->Prop} {es:List (Int × TypeId)} {t:Ty} {x:Int × t.den} (h:yw es x.1=none):zt w F (.ic es t) x .nilIface:=
 ⟨rfl,⟨fun h=>(by cases h),fun h=>(by obtain ⟨_,h⟩:=h; cases h)⟩,.inr ⟨h,rfl⟩⟩
theorem zau {w:World} {F:Nat->Prop} {t:Ty} {y:t.den} {v:Value} {o:Obj} (hF:∀ b,F b->b < w.heap.size) (h:zt w F t y v):qdw w F [t] (y,()) (.returned v) (w.alloc o):=
 ⟨v,F,rfl,(Below.refl _ w).alloc (Nat.le_refl _) _,fun _ h=>h,fun b hb=>⟨.inl hb,by have:=hF b hb; simp; omega⟩,h.mono (fun _ h=>h) (fun b hb=>Below.heap_alloc _ _ _ (hF b hb))⟩
theorem yb8 {w:World} {F:Nat->Prop} {k:Int} {u:Unit} {vs:List Value} (h:wn Tryz.prog w F [.d i64] (k,u) vs):vs=[.int .i64 k]/\inR .i64 k:=by
 obtain ⟨v,vs',rfl,h1,h2⟩:=h
 exact qm6 (w:=w) (F:=F) (y:=(k,())) ⟨v,vs',rfl,h1,h2⟩
def qab:Ct:=⟨[.d i64],[.ic esF .unit],fun x=>((x.1,()),()),fun _=>[]⟩
theorem ymn:qa Tryz.prog 96 qab:=by
 refine ⟨enters_of Tryz.func96 (by kernel_rfl) rfl,fun w F xs vs hbd hr _=>?_⟩
 obtain ⟨k,_⟩:=xs
 obtain ⟨rfl,_⟩:=yb8 hr
 refine yhv k _ w fun o=>zau hbd ?_
 unfold ofV
 split
 ·rename_i ty h
  exact zel h ⟨rfl,⟨fun _=>⟨_,rfl⟩,fun _=>rfl⟩,trivial⟩
 ·rename_i h
  exact zao h
end Go.Proofs.YtgieagiaagoogaaGreat
namespace Go.Proofs.YtgieagiaagoogaaGreat
open Go Go.Ab Go.RowKit Go.Proofs
abbrev qoi:Ty:=.pair (.fc none) (.pair (.fc (some 290)) (.pair (.fc (some 291)) (.pair (.fc (some 292)) (.pair (.fc (some 293)) (.pair (.fc (some 294)) .unit)))))
noncomputable def yf8:List (FuncId × Row):=[(290,.upd wq [i64] (fun x y=>(y.1,x.2.1,x.2.2.1,x.2.2.2.1,x.2.2.2.2.1,x.2.2.2.2.2.1,()))),(291,.upd wq [i64] (fun x y=>(x.1,IntKind.i64.wrap (x.2.1+y.1),x.2.2.1,x.2.2.2.1,x.2.2.2.2.1,x.2.2.2.2.2.1,()))),(292,.upd wq [i64] (fun x y=>(x.1,x.2.1,x.2.2.1,IntKind.i64.wrap (x.2.2.2.1+y.1),x.2.2.2.2.1,x.2.2.2.2.2.1,()))),(293,.upd wq [i64] (fun x _=>(x.1,x.2.1,x.2.2.1,x.2.2.2.1,x.2.2.2.2.1,false,()))),(294,.upd wq [i64] (fun x _=>(x.1,x.2.1,x.2.2.1,x.2.2.2.1,x.2.2.2.2.1,true,())))]
noncomputable def yk2:Cx:=cxR [(59,qae)] [] yf8 (fun _ _ _ _=>none)
theorem zbo:CxOK Tryz.prog yk2:=qt6 (cs:=[(59,qae)]) (ps:=[]) (rs:=yf8) qv ⟨zfk,trivial⟩ trivial ⟨yb2,yn2,ztu,yay,zye,trivial⟩ (fun _ _ _ _ _ h=>(nomatch h))
abbrev qbg:Pt:=⟨28,0,⟨[(12,.d i64),(11,.d i64),(10,.d (.sl zf))],[.x 2 319 wq,.r 2 2 0,.x 3 324 qoi,.r 3 3 0,.x 4 319 wq,.r 4 4 0]⟩,⟨[],[.x 2 319 wq,.r 2 2 0,.x 4 319 wq,.r 4 4 0]⟩,⟨[],[]⟩⟩
def zkf (x:qbg.M.X):Fr qbg.Out:=
 Fr.br (decide (x.1.1 < x.1.2.1)) (Fr.need (0<=x.1.1/\x.1.1 < ((List.length x.1.2.2.1):Int)) (Fr.br (qae.f ((List.getD x.1.2.2.1 (Int.toNat x.1.1) zf.dflt).2.1,1,5,())).1 (Fr.need (0<=(List.getD x.1.2.2.1 (Int.toNat x.1.1) zf.dflt).2.1/\(List.getD x.1.2.2.1 (Int.toNat x.1.1) zf.dflt).2.1 < (6:Int)) (Fr.need ((List.find? (fun x_1=>x_1.1==(List.getD x.1.2.2.1 (Int.toNat x.1.1) zf.dflt).2.1) (qfq 0 (List.take 6 (List.drop 0 (List.drop 0 (enc qoi x.2.2.1)))))).isSome=true) (Fr.need ((List.getD x.1.2.2.1 (Int.toNat x.1.1) zf.dflt).2.1 ≠ 0+1->qq [(List.getD x.1.2.2.1 (Int.toNat x.1.1) zf.dflt).2.1 ≠ 0+1+1->qq [(List.getD x.1.2.2.1 (Int.toNat x.1.1) zf.dflt).2.1 ≠ 0+1+1+1->qq [(List.getD x.1.2.2.1 (Int.toNat x.1.1) zf.dflt).2.1 ≠ 0+1+1+1+1->qq [(List.getD x.1.2.2.1 (Int.toNat x.1.1) zf.dflt).2.1=0+1+1+1+1+1]]]]) (Fr.val (Rd.next ((IntKind.i64.wrap (x.1.1+1),x.1.2.1,x.1.2.2.1,()),x.2.1,((),(),(),(),(),(),()),(bif (List.getD x.1.2.2.1 (Int.toNat x.1.1) zf.dflt).2.1==0+1 then ((List.getD x.1.2.2.1 (Int.toNat x.1.1) zf.dflt).2.2.1,x.2.2.2.1.2.1,x.2.2.2.1.2.2.1,x.2.2.2.1.2.2.2.1,x.2.2.2.1.2.2.2.2.1,x.2.2.2.1.2.2.2.2.2.1,()) else bif (List.getD x.1.2.2.1 (Int.toNat x.1.1) zf.dflt).2.1==0+1+1 then (x.2.2.2.1.1,IntKind.i64.wrap (x.2.2.2.1.2.1+(List.getD x.1.2.2.1 (Int.toNat x.1.1) zf.dflt).2.2.1),x.2.2.2.1.2.2.1,x.2.2.2.1.2.2.2.1,x.2.2.2.1.2.2.2.2.1,x.2.2.2.1.2.2.2.2.2.1,()) else bif (List.getD x.1.2.2.1 (Int.toNat x.1.1) zf.dflt).2.1==0+1+1+1 then (x.2.2.2.1.1,x.2.2.2.1.2.1,x.2.2.2.1.2.2.1,IntKind.i64.wrap (x.2.2.2.1.2.2.2.1+(List.getD x.1.2.2.1 (Int.toNat x.1.1) zf.dflt).2.2.1),x.2.2.2.1.2.2.2.2.1,x.2.2.2.1.2.2.2.2.2.1,()) else bif (List.getD x.1.2.2.1 (Int.toNat x.1.1) zf.dflt).2.1==0+1+1+1+1 then (x.2.2.2.1.1,x.2.2.2.1.2.1,x.2.2.2.1.2.2.1,x.2.2.2.1.2.2.2.1,x.2.2.2.1.2.2.2.2.1,false,()) else (x.2.2.2.1.1,x.2.2.2.1.2.1,x.2.2.2.1.2.2.1,x.2.2.2.1.2.2.2.1,x.2.2.2.1.2.2.2.2.1,true,())),())))))) (Fr.val (Rd.next ((IntKind.i64.wrap (x.1.1+1),x.1.2.1,x.1.2.2.1,()),x.2.1,((),(),(),(),(),(),()),x.2.2.2.1,()))))) (Fr.val (Rd.out ((),x.2.1,x.2.2.2.1,())))
theorem zyy:qe Tryz.prog (qo Tryz.f287 0) qbg.M qbg zkf:=
 qe.of_run zbo (bs:=0) (Λ:=qp) rfl rfl rfl (fun E=>qd _ 0) (fun x=>by kernel_rfl)
abbrev qoc:Type:=qm [] × jc [.x 2 319 wq,.r 2 2 0,.x 3 324 qoi,.r 3 3 0,.x 4 319 wq,.r 4 4 0]
def wt (e:zf.den) (s:qoc):Fr qoc:=
 Fr.br (qae.f (e.2.1,1,5,())).1 (Fr.need (0<=e.2.1/\e.2.1 < (6:Int)) (Fr.need ((List.find? (fun x_1=>x_1.1==e.2.1) (qfq 0 (List.take 6 (List.drop 0 (List.drop 0 (enc qoi s.2.2.1)))))).isSome=true) (Fr.need (e.2.1 ≠ 0+1->qq [e.2.1 ≠ 0+1+1->qq [e.2.1 ≠ 0+1+1+1->qq [e.2.1 ≠ 0+1+1+1+1->qq [e.2.1=0+1+1+1+1+1]]]]) (Fr.val ((),s.2.1,((),(),(),(),(),(),()),(bif e.2.1==0+1 then (e.2.2.1,s.2.2.2.1.2.1,s.2.2.2.1.2.2.1,s.2.2.2.1.2.2.2.1,s.2.2.2.1.2.2.2.2.1,s.2.2.2.1.2.2.2.2.2.1,()) else bif e.2.1==0+1+1 then (s.2.2.2.1.1,IntKind.i64.wrap (s.2.2.2.1.2.1+e.2.2.1),s.2.2.2.1.2.2.1,s.2.2.2.1.2.2.2.1,s.2.2.2.1.2.2.2.2.1,s.2.2.2.1.2.2.2.2.2.1,()) else bif e.2.1==0+1+1+1 then (s.2.2.2.1.1,s.2.2.2.1.2.1,s.2.2.2.1.2.2.1,IntKind.i64.wrap (s.2.2.2.1.2.2.2.1+e.2.2.1),s.2.2.2.1.2.2.2.2.1,s.2.2.2.1.2.2.2.2.2.1,()) else bif e.2.1==0+1+1+1+1 then (s.2.2.2.1.1,s.2.2.2.1.2.1,s.2.2.2.1.2.2.1,s.2.2.2.1.2.2.2.1,s.2.2.2.1.2.2.2.2.1,false,()) else (s.2.2.2.1.1,s.2.2.2.1.2.1,s.2.2.2.1.2.2.1,s.2.2.2.1.2.2.2.1,s.2.2.2.1.2.2.2.2.1,true,())),()))))) (Fr.val ((),s.2.1,((),(),(),(),(),(),()),s.2.2.2.1,()))
def qdb (x:qbg.M.X):Int × List zf.den × qoc:=(x.1.1,x.1.2.2.1,x.1.2.2.2,x.2)
def qmp (x:qbg.M.X):Prop:=x.1.2.1=(x.1.2.2.1.length:Int)
def qpb (s:qoc):qbg.E.X:=((),s.2.1,s.2.2.2.1,())
theorem zs8:qe Tryz.prog (.loop (qo Tryz.f287 0)) qbg.M qbg (FF wt qdb qmp qpb):=by
 refine qe.fold zyy wt qdb qmp qpb ?_ ?_
 ·rintro ⟨⟨i,n,l,s⟩,m⟩ hg h0 h1 hb e he Q h
  have hg:n=(l.length:Int):=hg
  subst hg
  have h0:0<=i:=h0
  have h1:i < (l.length:Int):=h1
  have hb:(l.length:Int)<=9223372036854775807:=hb
  have hd:l.getD i.toNat zf.dflt=e:=zr he
  have hw:=zx h0 h1 hb
  dsimp only [qdb,wt,zkf,Fr.satP] at h ⊢
  simp only [hd,hw] at h ⊢
  refine ⟨fun _=>?_,fun hn=>absurd h1 (of_decide_eq_false hn)⟩
  repeat' first
   |exact h
   |exact ⟨h0,h1⟩
   |exact fun _=>⟨h0,h1⟩
   |exact h _ rfl rfl
   |(refine ⟨fun hc=>?_,fun hc=>?_⟩<;>first | replace h:=h.1 hc | replace h:=h.2 hc)
   |(refine ⟨h.1,?_⟩; replace h:=h.2)
   |refine ⟨⟨h0,h1⟩,?_⟩
   |exact h.1
   |exact h.2.1
   |exact h.2.2.1
   |refine ⟨?_,?_⟩
   |(intro (hc:_=true); replace h:=h.1 hc)
   |(intro (hc:_=false); replace h:=h.2 hc)
   |(replace h:=h.2)
 ·rintro ⟨⟨i,n,l,s⟩,m⟩ hg h1 Q h
  have hg:n=(l.length:Int):=hg
  subst hg
  exact ⟨fun hn=>absurd (of_decide_eq_true hn) h1,fun _=>h⟩
def ykj (Γ:Gm):St->Option Tr:=qbg.han Γ qbg.M (FF wt qdb qmp qpb)
def zyg (y:qbg.M.X):qoc:=goF wt ((qdb y).2.1.drop (qdb y).1.toNat) (qdb y).2.2
def zx2 (y:qbg.M.X):Prop:=okF wt ((qdb y).2.1.drop (qdb y).1.toNat) (qdb y).2.2
def zjp (x:qm [.d qr]):Fr (qi [wq]):=
 Fr.need (InL (qmp ((0,((List.length x.1.2.1):Int),x.1.2.1,()),(0,0,0,0,0,false,()),((),(),(),(),(),(),()),(0,0,0,0,0,true,()),())) (qdb ((0,((List.length x.1.2.1):Int),x.1.2.1,()),(0,0,0,0,0,false,()),((),(),(),(),(),(),()),(0,0,0,0,0,true,()),()))) (Fr.need (zx2 ((0,((List.length x.1.2.1):Int),x.1.2.1,()),(0,0,0,0,0,false,()),((),(),(),(),(),(),()),(0,0,0,0,0,true,()),())) (Fr.val ((qpb (zyg ((0,((List.length x.1.2.1):Int),x.1.2.1,()),(0,0,0,0,0,false,()),((),(),(),(),(),(),()),(0,0,0,0,0,true,()),()))).2.2.1,())))
theorem znh:qa Tryz.prog 287 ⟨[.d qr],[wq],fun xs=>(zjp xs).get,fun xs=>[(zjp xs).ok]⟩:=
 qg zbo (Λ:=(fun _=>ykj yk2.Γ)) (fn:=Tryz.f287) (dfP [.d qr]) (by kernel_rfl) (fun c E hc=>yz hc (by kernel_rfl) (b:=qo Tryz.f287 0) (by kernel_rfl) (qe.han zbo rfl zs8)) (fun x=>by kernel_rfl)
def qrl (p:wq.den) (a:zf.den):wq.den:=
 bif qpm a.2.1 1 5 then (bif a.2.1==1 then (a.2.2.1,p.2) else bif a.2.1==2 then (p.1,IntKind.i64.wrap (p.2.1+a.2.2.1),p.2.2) else bif a.2.1==3 then (p.1,p.2.1,p.2.2.1,IntKind.i64.wrap (p.2.2.2.1+a.2.2.1),p.2.2.2.2)
  else bif a.2.1==4 then (p.1,p.2.1,p.2.2.1,p.2.2.2.1,p.2.2.2.2.1,false,()) else (p.1,p.2.1,p.2.2.1,p.2.2.2.1,p.2.2.2.2.1,true,())) else p
def qlx (g:qr.den):wq.den:=g.2.1.foldl qrl (0,0,0,0,0,true,())
theorem ycz {k:Int} (h:1<=k/\k<=5):k=1 ∨ k=2 ∨ k=3 ∨ k=4 ∨ k=5:=by omega
theorem qs9 (e:zf.den) (q p:wq.den) (u:qoi.den):(wt e ((),q,u,p,())).ok/\(wt e ((),q,u,p,())).get=((),q,u,qrl p e,()):=by
 obtain ⟨b,k,m,_⟩:=e
 cases hw:qpm k 1 5
 ·have ha:qrl p (b,k,m,())=p:=by unfold qrl; rw [show qpm (b,k,m,()).2.1 1 5=false from hw]; rfl
  rw [ha]
  exact Fr.br_f hw ⟨trivial,rfl⟩
 ·have h15:=zzl.1 hw
  have hk:=ycz h15
  have ha:∀ z,(qrl p (b,k,m,())=z)=((bif k==1 then (m,p.2) else bif k==2 then (p.1,IntKind.i64.wrap (p.2.1+m),p.2.2) else bif k==3 then (p.1,p.2.1,p.2.2.1,IntKind.i64.wrap (p.2.2.2.1+m),p.2.2.2.2)
  else bif k==4 then (p.1,p.2.1,p.2.2.1,p.2.2.2.1,p.2.2.2.2.1,false,()) else (p.1,p.2.1,p.2.2.1,p.2.2.2.1,p.2.2.2.2.1,true,()):wq.den)=z):=fun z=>by
   unfold qrl; rw [show qpm (b,k,m,()).2.1 1 5=true from hw]; rfl
  refine Fr.br_t hw ?_
  rcases hk with rfl | rfl | rfl | rfl | rfl <;>
   exact Fr.need_ (by first | exact (by decide:(0:Int)<=1/\(1:Int) < 6) | exact (by decide:(0:Int)<=2/\(2:Int) < 6) | exact (by decide:(0:Int)<=3/\(3:Int) < 6) | exact (by decide:(0:Int)<=4/\(4:Int) < 6) | exact (by decide:(0:Int)<=5/\(5:Int) < 6)) (Fr.need_ (by kernel_rfl) (Fr.need_ (by simp [qq]) ⟨trivial,by rw [Prod.mk.injEq]; exact ⟨rfl,by rw [eq_comm] ; rfl⟩⟩))
theorem zmc (q:wq.den) (u:qoi.den):(l:List zf.den)->(p:wq.den)->goF wt l ((),q,u,p,())=((),q,u,l.foldl qrl p,())
 |[],_=>rfl
 |e :: l,p=>by
  show goF wt l (wt e ((),q,u,p,())).get=_
  rw [(qs9 e q p u).2]
  exact zmc q u l (qrl p e)
theorem ze9 (q:wq.den) (u:qoi.den):(l:List zf.den)->(p:wq.den)->okF wt l ((),q,u,p,())
 |[],_=>trivial
 |e :: l,p=>⟨(qs9 e q p u).1,by
  rw [(qs9 e q p u).2]
  exact ze9 q u l (qrl p e)⟩
theorem zpa {w:World} {F:Nat->Prop} {g:qr.den} {v:Value} (h:zt w F qr g v):((List.length (α:=zf.den) g.2.1:Nat):Int)<=9223372036854775807:=by
 have h1:List.length (α:=zf.den) g.2.1<=maxLen:=(qs.wf h.2.2).2.1.1
 unfold maxLen at h1
 omega
def qnl:Ct:=⟨[.d qr],[wq],fun x=>(qlx x.1,()),fun _=>[]⟩
abbrev yma:wq.den:=(0,0,0,0,0,false,())
abbrev you:qoi.den:=((),(),(),(),(),(),())
theorem yd8:qa Tryz.prog 287 qnl:=
 conv znh _ _ (fun w F x vs hr _=>by
  obtain ⟨g,_⟩:=x
  obtain ⟨v,vs',rfl,hv,_⟩:=hr
  have hlen:=zpa hv
  refine Fr.need_ ⟨rfl,Int.le_refl _,Int.natCast_nonneg _,hlen⟩ (Fr.need_ ?_ ⟨trivial,?_⟩)
  ·exact ze9 yma you (List.drop 0 g.2.1) _
  ·show ((goF wt (List.drop 0 g.2.1) ((),yma,you,(0,0,0,0,0,true,()),())).2.2.2.1,())=(qlx g,())
   rw [List.drop_zero,zmc]
   rfl)
end Go.Proofs.YtgieagiaagoogaaGreat
namespace Go.Proofs.YtgieagiaagoogaaGreat
open Go Go.Ab Go.RowKit Go.Proofs Go.Shelf Go.Lib
set_option maxRecDepth 100000 in
theorem ymw:(Tryz.prog.info? 42).map (fun i=>(i.zero,i.size,i.bytes))=some (some (.agg #[.int .i64 0,.int .i64 0,.int .i64 0]),3,24):=by kernel_rfl
set_option maxHeartbeats 4000000 in
set_option maxRecDepth 100000 in
theorem zre:CloneOK Tryz.prog 289 42 zf 24:=by
 refine ⟨enters_of Tryz.func289 (by kernel_rfl) rfl,fun w n c A xs hnc hA hxl hxc h1 h63 hby=>?_⟩
 obtain ⟨i0,hi0,hz0,hz1,hz2⟩:=info_parts ymw
 have hcmp:∀ (A:Option Addr) (n c:Nat),(binOp .eql 74 (.slice A n c) (.slice none 0 0)).run Tryz.prog w = .ok (.bool A.isNone) w:=fun A n c=>by
  have h1:binOp .eql 74 (.slice A n c) (.slice none 0 0)=(do pure (.bool (← Op.equal 74 (.slice A n c) (.slice none 0 0)))):=rfl
  have h2:Op.equal 74 (.slice A n c) (.slice none 0 0)=Op.equalIn (9999+1) 74 (.slice A n c) (.slice none 0 0):=rfl
  rw [h1,h2]
  simp [qlp Tryz.underlying74]
 go_enter Tryz.func289,Tryz.ntmps289
 cases A with
 |none=>
  have h0:=hA rfl
  subst h0
  have hx:xs=[]:=List.eq_nil_of_length_eq_zero (by simpa using hxl)
  subst hx
  go_wp2_with (simp only [hcmp])
  go_ret
  exact ⟨_,rfl,⟨rfl,rfl,rfl,Nat.le_refl _,fun _ _ _=>rfl⟩,World.ownsRow_nil _ _ _ _⟩
 |some ad=>
  have hW:(w.alloc (.cells #[] 42)).ownsRow w.heap.size 42 3 (.slice (some ⟨w.heap.size,0,none⟩) 0 0) 0 []:=World.ownsRow_lit w #[] 0 (Nat.le_refl _) (by unfold maxLen; omega) rfl
  have hcell:∀ (j:Nat) u,xs[j]? = some u->(w.alloc (.cells #[] 42)).cell? (ad.add j)=some u:=fun j u hj=>by
   have h:=hxc ad rfl j u hj
   have hb:=block_lt_of_cell h
   rw [World.cell?_of_block (yg w _ _ hb)]
   exact h
  obtain ⟨v',w',hr,e2,e3,e4⟩:=qci (P:=Tryz.prog) (w:=w.alloc (.cells #[] 42)) (B:=w.heap.size) 74 74 42 i0 _ 3 Tryz.underlying74 hi0 hz0 hz1 rfl (by decide) _ 0 [] hW (some ad) n c xs (fun h=>by cases h) hxl (fun ad' e=>by cases e; exact hcell) h1 (by rw [Nat.zero_add]; exact h63) (by rw [hz2,Nat.zero_add]; exact hby) (by simp)
  have hr':∀ ty,(Builtin.append_ #[74,74] ty #[.slice (some ⟨w.heap.size,0,none⟩) 0 0,.slice (some ad) n c]).run Tryz.prog (w.alloc (.cells #[] 42)) = .ok v' w':=fun ty=>hr
  clear hr
  go_wp2_with (first | (simp only [hcmp]; done) | simp only [hcmp] | (at_builtin; refine Lib.wpList_append_run _ rfl _ _ _ _ rfl _ _ rfl rfl _ _ (hr' _) ?_))
  go_ret
  rw [Nat.zero_add,List.nil_append] at e2
  refine ⟨v',rfl,⟨e3.os,e3.tape,e3.output,Nat.le_trans (by simp) e3.size,fun k hk _=>(e3.block k (by simp; omega) (fun e=>?_)).trans (yg w _ k hk)⟩,e2⟩
  have:k=w.heap.size:=by simpa [Value.ownBlock] using e
  omega
end Go.Proofs.YtgieagiaagoogaaGreat
namespace Go.Proofs.YtgieagiaagoogaaGreat
open Go Go.Ab Go.RowKit Go.Proofs
noncomputable def yqs:Cx:=cxR [(287,qnl),(27,qmy),(288,qy7)] [] [(289,.clone 42 zf 24)] (fun _ _ _ _=>none)
theorem ygi:CxOK Tryz.prog yqs:=qt6 (cs:=[(287,qnl),(27,qmy),(288,qy7)]) (ps:=[]) (rs:=[(289,.clone 42 zf 24)]) qv ⟨yd8,zdp,ycp,trivial⟩ trivial ⟨zre,trivial⟩ (fun _ _ _ _ _ h=>(nomatch h))
def qwb (x:qm [.d qr,.d zf]):Fr (qi [qr,i64]):=
 Fr.br (!(qmy.f (x.2.1,())).1) (Fr.val (((0,0,0,0,0,0,()),[],()),1,())) (Fr.br (decide (((List.length x.1.2.1):Int) ≥ 2000)) (Fr.val (((0,0,0,0,0,0,()),[],()),2,())) (Fr.br (decide (x.2.1.1 < (qy7.f (x.1,())).1)) (Fr.val (((0,0,0,0,0,0,()),[],()),4,())) (Fr.br ((qnl.f (x.1,())).1.2.2.2.2.2.1==(x.2.1.2.1==5)) (Fr.val (((0,0,0,0,0,0,()),[],()),10,())) (Fr.br (bif x.2.1.2.1==2 then decide (x.2.1.2.2.1 > IntKind.i64.wrap (1000000000000000 - (qnl.f (x.1,())).1.2.1)) else false) (Fr.br (bif x.2.1.2.1==2 then decide (x.2.1.2.2.1 > IntKind.i64.wrap (1000000000000000 - (qnl.f (x.1,())).1.2.1)) else false) (Fr.val (((0,0,0,0,0,0,()),[],()),5,())) (Fr.need (List.length x.1.2.1<=maxLen) (Fr.need (List.length x.1.2.1 * 24<=140737488355328) (Fr.need (List.length x.1.2.1 + [x.2.1].length<=maxLen/\(List.length x.1.2.1 + [x.2.1].length) * 24<=140737488355328) (Fr.val ((x.1.1,x.1.2.1++[x.2.1],()),0,())))))) (Fr.br (bif x.2.1.2.1==3 then decide (x.2.1.2.2.1 > IntKind.i64.wrap (1000000000000000 - (qnl.f (x.1,())).1.2.2.2.1)) else false) (Fr.val (((0,0,0,0,0,0,()),[],()),5,())) (Fr.need (List.length x.1.2.1<=maxLen) (Fr.need (List.length x.1.2.1 * 24<=140737488355328) (Fr.need (List.length x.1.2.1 + [x.2.1].length<=maxLen/\(List.length x.1.2.1 + [x.2.1].length) * 24<=140737488355328) (Fr.val ((x.1.1,x.1.2.1++[x.2.1],()),0,()))))))))))
theorem zr3:qa Tryz.prog 285 ⟨[.d qr,.d zf],[qr,i64],fun xs=>(qwb xs).get,fun xs=>[(qwb xs).ok]⟩:=
 qg ygi (Λ:=qp) (fn:=Tryz.f285) (dfP [.d qr,.d zf]) (by kernel_rfl) (fun c E _=>qd c 0) (fun x=>by kernel_rfl)
abbrev g00:qr.den:=((0,0,0,0,0,0,()),[],())
def zvn (g:qr.den) (a:zf.den):Bool:=
 (bif a.2.1==2 then decide (a.2.2.1 > IntKind.i64.wrap (1000000000000000 - (qlx g).2.1)) else false) || (bif a.2.1==3 then decide (a.2.2.1 > IntKind.i64.wrap (1000000000000000 - (qlx g).2.2.2.1)) else false)
def qv8 (g:qr.den) (a:zf.den):qr.den × Int:=
 bif !(qm0 a) then (g00,1) else bif decide (((List.length (α:=zf.den) g.2.1:Nat):Int) ≥ 2000) then (g00,2) else bif decide (a.1 < zah g) then (g00,4)
  else bif (qlx g).2.2.2.2.2.1==(a.2.1==5) then (g00,10) else bif zvn g a then (g00,5) else ((g.1,g.2.1++[a],()),0)
def yfj:Ct:=⟨[.d qr,.d zf],[qr,i64],fun x=>((qv8 x.1 x.2.1).1,(qv8 x.1 x.2.1).2,()),fun _=>[]⟩
theorem yhd (g:qr.den) (a:zf.den):(qwb (g,a,())).ok/\(qwb (g,a,())).get=((qv8 g a).1,(qv8 g a).2,()):=by
 unfold qv8
 cases h1:qm0 a
 ·exact Fr.br_t (by show (!(qm0 a))=true; rw [h1]; rfl) ⟨trivial,rfl⟩
 refine Fr.br_f (by show (!(qm0 a))=false; rw [h1]; rfl) ?_
 cases h2:decide (((List.length (α:=zf.den) g.2.1:Nat):Int) ≥ 2000)
 rotate_left
 ·exact Fr.br_t (by first | rfl | exact h2) ⟨trivial,rfl⟩
 refine Fr.br_f (by first | rfl | exact h2) ?_
 have hl:List.length (α:=zf.den) g.2.1 < 2000:=by have:=of_decide_eq_false h2; omega
 have n1:List.length (α:=zf.den) g.2.1<=maxLen:=by unfold maxLen; omega
 have n2:List.length (α:=zf.den) g.2.1 * 24<=140737488355328:=by omega
 have n3:List.length (α:=zf.den) g.2.1 + [a].length<=maxLen/\(List.length (α:=zf.den) g.2.1 + [a].length) * 24<=140737488355328:=by
  rw [List.length_singleton]
  exact ⟨by unfold maxLen; omega,by omega⟩
 cases h3:decide (a.1 < zah g)
 rotate_left
 ·exact Fr.br_t (by first | rfl | exact h3) ⟨trivial,rfl⟩
 refine Fr.br_f (by first | rfl | exact h3) ?_
 cases h4:(qlx g).2.2.2.2.2.1==(a.2.1==5)
 rotate_left
 ·exact Fr.br_t (by first | rfl | exact h4) ⟨trivial,rfl⟩
 refine Fr.br_f (by first | rfl | exact h4) ?_
 unfold zvn
 cases h5:(bif a.2.1==2 then decide (a.2.2.1 > IntKind.i64.wrap (1000000000000000 - (qlx g).2.1)) else false)
 rotate_left
 ·exact Fr.br_t (by first | rfl | exact h5) (Fr.br_t (by first | rfl | exact h5) ⟨trivial,rfl⟩)
 refine Fr.br_f (by first | rfl | exact h5) ?_
 cases h6:(bif a.2.1==3 then decide (a.2.2.1 > IntKind.i64.wrap (1000000000000000 - (qlx g).2.2.2.1)) else false)
 rotate_left
 ·exact Fr.br_t (by first | rfl | exact h6) ⟨trivial,rfl⟩
 exact Fr.br_f (by first | rfl | exact h6) (Fr.need_ n1 (Fr.need_ n2 (Fr.need_ n3 ⟨trivial,rfl⟩)))
theorem yhe:qa Tryz.prog 285 yfj:=conv zr3 _ _ (fun _ _ x _ _ _=>yhd x.1 x.2.1)
def X0:zo.den:=((1,101,()),(0,36500,0,0,()),[(1,1000,1000,0,10000,())],())
theorem yi.filter {α:Type} {key:α->Int} {l:List α} (h:yi key l) (p:α->Bool):yi key (l.filter p):=List.Pairwise.sublist List.filter_sublist h
theorem Good.all {p:List Int × List Int} {m:Int} (h:Good p m):∀ x ∈ p.1,x<=m:=by
 intro x hx
 have hp:=(qs6 h.up h.len).1
 have hle:=h.le
 have hne:p.1 ≠ []:=List.ne_nil_of_mem hx
 rw [List.getLast?_eq_some_getLast hne] at hle
 have hle':p.1.getLast hne<=m:=hle
 have hs:p.1=p.1.dropLast++[p.1.getLast hne]:=(List.dropLast_concat_getLast hne).symm
 rw [hs] at hx hp
 rcases List.mem_append.1 hx with hx | hx
 ·have:=(List.pairwise_append.1 hp).2.2 x hx _ (List.mem_singleton.2 rfl)
  exact Int.le_of_lt (Int.lt_of_lt_of_le this hle')
 ·rw [List.mem_singleton.1 hx]
  exact hle'
theorem zwm {h:ql.den} {t:zd.den} (hf:qr6 h t=true):jf h/\jq t:=by
 unfold qr6 at hf
 simp only [Bool.and_eq_true,decide_eq_true_eq,List.all_eq_true] at hf
 obtain ⟨⟨h1,h2,h3⟩,h4,h5⟩:=hf
 refine ⟨⟨by show h.2.2.2.1.length<=500000; omega,by omega,fun c hc=>?_⟩,by omega,fun v hv=>?_⟩
 ·have:c.2.2.2.2.1.length<=50:=of_decide_eq_true (h4 c hc)
  omega
 ·have:=h5 v hv
  unfold qx5 at this
  simp only [Bool.and_eq_true,decide_eq_true_eq] at this
  exact ⟨by omega,by omega,by omega⟩
def zqr (h:ql.den) (c:qc.den):ql.den:=(h.1,h.2.1,h.2.2.1,([]++h.2.2.2.1)++[c],())
set_option maxRecDepth 100000 in
def zg3 (n m:Nat):Prop:=n+m<=maxLen/\(n+m) * Tryz.prog.types[38].bytes<=140737488355328
set_option maxRecDepth 100000 in
theorem qw5:Tryz.prog.types[38].bytes<=1000:=by decide
theorem qd6.mem {st:Int->zbt} {b:Int}:{a:Int} -> {l:List qk.den}->qd6 st b a l->∀ s ∈ l,a<=s.1.1/\s.1.1 < s.1.2.1/\s.1.2.1<=b/\∀ d,s.1.1<=d->d < s.1.2.1->qfo s=st d
 |_,[],_,_,hs=>by cases hs
 |a,t :: l,h,s,hs=>by
  obtain ⟨h1,h2,h3,h4,h5,h6⟩:=h
  rcases List.mem_cons.1 hs with rfl | hs
  ·rw [h1]
   exact ⟨Int.le_refl _,h2,h6.le,h4⟩
  ·obtain ⟨q1,q2⟩:=qd6.mem h6 s hs
   exact ⟨Int.le_trans (Int.le_of_lt h2) q1,q2⟩
noncomputable def yqn:Cx:=cx [(70,qeb qb)] []
theorem yge:CxOK Tryz.prog yqn:=zb qv ⟨qld,trivial⟩ trivial
def qy8:Ct:=⟨[.d zo],[zo],fun x=>(x.1,()),fun x=>[x.1.2.2.1.length<=1000000]⟩
theorem zpu:qa Tryz.prog 259 qy8:=
 vt (qg yge (Λ:=qp) (fn:=Tryz.f259) (fr:=fun x=>Fr.need (x.1.2.2.1.length<=1000000) (Fr.val (x.1,()))) (ps:=[.d zo]) (rs:=[zo]) (zo.dflt,()) (by kernel_rfl) (fun c E _=>qd c 0) (fun x=>by kernel_rfl)) _ _
  (fun _ _ _ _ _ hok=>Fr.need_ hok ⟨trivial,rfl⟩)
def h00:ql.den:=(0,0,((0,0,()),(0,0,0,0,()),[],()),[],())
def qwk (h:ql.den):Int:=if (chL h).length=0 then h.2.1 else ((chL h).getD ((chL h).length - 1) qc.dflt).1
def qu6 (h:ql.den) (c:qc.den):ql.den × Int:=
 if xu c=true/\inB h.2.2.1.1.1 h.2.2.1.1.2.1 c.2.1=true then
  (if c.1 < qwk h then (h00,4) else if 2000<=(chL h).length then (h00,2) else (zqr h c,0))
 else (h00,1)
def ylw:Ct:=⟨[.d ql,.d qc],[ql,i64],fun x=>((qu6 x.1 x.2.1).1,(qu6 x.1 x.2.1).2,()),fun x=>[jf x.1]⟩
noncomputable def yqo:Cx:=cx [(70,qeb qb),(99,qea),(43,cIn),(259,qy8)] []
theorem ygf:CxOK Tryz.prog yqo:=zb qv ⟨qld,qrv,qnu,zpu,trivial⟩ trivial
def qz2 (h:ql.den) (c:qc.den) (last:Int):Fr (qi [ql,i64]):=
 Fr.br (bif !(qea.f (c,())).1 then true else !(cIn.f (h.2.2.1.1,c.2.1,())).1) (Fr.val (h00,1,()))
  (Fr.br (decide (c.1 < last)) (Fr.val (h00,4,()))
   (Fr.br (decide (((chL h).length:Int) ≥ 2000)) (Fr.val (h00,2,()))
    (Fr.need (c.2.2.2.2.1.length<=1000000) (Fr.need (h.2.2.1.2.2.1.length<=1000000)
     (Fr.need (0<=(none:Option Int).getD 0/\(none:Option Int).getD 0<=((chL h).length:Int)/\((chL h).length:Int)<=((chL h).length:Int)/\((chL h).length:Int)=((chL h).length:Int))
      (Fr.need (0 < [c].length/\zg3 (List.take (((chL h).length:Int) - (none:Option Int).getD 0).toNat (List.drop ((none:Option Int).getD 0).toNat (chL h))).length [c].length)
       (Fr.val ((h.1,h.2.1,h.2.2.1,List.take (((chL h).length:Int) - (none:Option Int).getD 0).toNat (List.drop ((none:Option Int).getD 0).toNat (chL h))++[c],()),0,()))))))))
def zsi (x:qm [.d ql,.d qc]):Fr (qi [ql,i64]):=
 Fr.br (decide (((chL x.1).length:Int) > 0))
  (Fr.need (0<=IntKind.i64.wrap (((chL x.1).length:Int) - 1)/\IntKind.i64.wrap (((chL x.1).length:Int) - 1) < ((chL x.1).length:Int))
   (qz2 x.1 x.2.1 (List.getD (chL x.1) (IntKind.i64.wrap (((chL x.1).length:Int) - 1)).toNat qc.dflt).1))
  (qz2 x.1 x.2.1 x.1.2.1)
theorem yjg:qa Tryz.prog 270 ⟨[.d ql,.d qc],[ql,i64],fun xs=>(zsi xs).get,fun xs=>[(zsi xs).ok]⟩:=
 qg ygf (Λ:=qp) (fn:=Tryz.f270) (fr:=zsi) (ps:=[.d ql,.d qc]) (rs:=[ql,i64]) (ql.dflt,qc.dflt,()) (by kernel_rfl) (fun c E _=>qd c 0) (fun x=>by kernel_rfl)
theorem ydo {n:Nat} (hn:n<=2000):zg3 n 1:=by
 refine ⟨by unfold maxLen; omega,Nat.le_trans (Nat.mul_le_mul (show n+1<=2001 by omega) qw5) (by decide)⟩
theorem zou {a b:Bool}:(bif !a then true else !b)=false↔a=true/\b=true:=by
 cases a<;>cases b<;>simp
theorem yej (l:List qc.den):List.take ((l.length:Int) - (none:Option Int).getD 0).toNat (List.drop ((none:Option Int).getD 0).toNat l)=l:=by
 show List.take ((l.length:Int) - 0).toNat l=l
 rw [Int.sub_zero,Int.toNat_natCast,List.take_length]
theorem qk9 {a b:Bool} (h:(bif a then b else false)=true):a=true/\b=true:=by
 cases a with
 |false=>cases h
 |true=>exact ⟨rfl,h⟩
theorem qyi {n:Nat} (h:((n:Int)==0)=true):n<=1000000:=by
 have:(n:Int)=0:=eq_of_beq h
 omega
theorem qqw {c:qc.den} (h:xu c=true):c.2.2.2.2.1.length<=1000000:=by
 unfold xu zag at h
 rw [Bool.and_eq_true,Bool.and_eq_true] at h
 have h3:=h.2.2
 split at h3
 ·exact qyi (qk9 (qk9 h3).1).2
 ·split at h3
  ·have hc:qb5 c.2.2.2.2.1=true:=(qk9 (qk9 h3).1).1
   unfold qb5 at hc
   rw [Bool.and_eq_true] at hc
   have:=of_decide_eq_true hc.1
   exact Nat.le_trans this.2 (by decide)
  ·split at h3
   ·exact qyi (qk9 (qk9 h3).1).2
   ·split at h3
    ·exact qyi (qk9 (qk9 h3).1).2
    ·cases h3
theorem zd7 {h:ql.den} {c:qc.den} {last:Int} (hl:last=qwk h) (hf:jf h) :
  (qz2 h c last).ok/\(qz2 h c last).get=((qu6 h c).1,(qu6 h c).2,()):=by
 subst hl
 unfold qu6
 cases h1:(bif !(qea.f (c,())).1 then true else !(cIn.f (h.2.2.1.1,c.2.1,())).1) with
 |true=>
  refine Fr.br_t h1 ⟨trivial,?_⟩
  have h1':¬ (xu c=true/\inB h.2.2.1.1.1 h.2.2.1.1.2.1 c.2.1=true):=fun hh=>by
   have h2:(bif !xu c then true else !inB h.2.2.1.1.1 h.2.2.1.1.2.1 c.2.1)=true:=h1
   rw [zou.2 hh] at h2
   cases h2
  rw [if_neg h1']
  rfl
 |false=>
  refine Fr.br_f h1 ?_
  have h1':xu c=true/\inB h.2.2.1.1.1 h.2.2.1.1.2.1 c.2.1=true:=zou.1 h1
  rw [if_pos h1']
  by_cases h2:c.1 < qwk h
  ·rw [if_pos h2]
   exact Fr.br_t (decide_eq_true h2) ⟨trivial,rfl⟩
  ·rw [if_neg h2]
   refine Fr.br_f (decide_eq_false h2) ?_
   by_cases h3:2000<=(chL h).length
   ·rw [if_pos h3]
    exact Fr.br_t (decide_eq_true (by omega)) ⟨trivial,rfl⟩
   ·rw [if_neg h3]
    refine Fr.br_f (decide_eq_false (by omega)) (Fr.need_ (qqw h1'.1) (Fr.need_ hf.2.1 (Fr.need_ ⟨Int.le_refl _,Int.natCast_nonneg _,Int.le_refl _,rfl⟩ ?_)))
    rw [yej]
    have hr:=ydo (n:=(chL h).length) (by omega)
    refine Fr.need_ ⟨Nat.zero_lt_one,hr⟩ ⟨trivial,?_⟩
    rfl
theorem yn3:qa Tryz.prog 270 ylw:=
 vt yjg _ _ (fun w F x vs hr hok=>by
  obtain ⟨h,c,_⟩:=x
  obtain ⟨v,vs',rfl,hv,_⟩:=hr
  have hlen:((chL h).length:Int)<=9223372036854775807:=qm8 (qs.wf hv.2.2).2.2.2.1.1
  have hf:jf h:=hok
  by_cases h0:(chL h).length=0
  ·refine Fr.br_f (decide_eq_false (by show ¬ ((chL h).length:Int) > 0; omega)) (zd7 ?_ hf)
   unfold qwk
   rw [if_pos h0]
  ·have hw:IntKind.i64.wrap (((chL h).length:Int) - 1)=((chL h).length:Int) - 1:=qdf (by omega)
   refine Fr.br_t (decide_eq_true (by show ((chL h).length:Int) > 0; omega)) (Fr.need_ ?_ (zd7 ?_ hf))
   ·show 0<=IntKind.i64.wrap (((chL h).length:Int) - 1)/\IntKind.i64.wrap (((chL h).length:Int) - 1) < ((chL h).length:Int)
    rw [hw]
    omega
   ·show (List.getD (chL h) (IntKind.i64.wrap (((chL h).length:Int) - 1)).toNat qc.dflt).1=qwk h
    unfold qwk
    rw [if_neg h0,hw,show (((chL h).length:Int) - 1).toNat=(chL h).length - 1 by omega])
end Go.Proofs.YtgieagiaagoogaaGreat
namespace Go.Proofs.YtgieagiaagoogaaGreat
open Go Go.Ab Go.RowKit Go.Proofs Go.Shelf
attribute [local go_sem] Oper.semAt_some
theorem yb5 (w:World) (m:Nat) (z:Array Value) (hz:z.size=9) (h1:m<=maxLen) (e:TypeId) :
  w.grownBy ((w.alloc (.cells (Builtin.zeroCells z m++Builtin.zeroCells z (grownCap w m 0 e - m)) e)).drew) none /\
   ((w.alloc (.cells (Builtin.zeroCells z m++Builtin.zeroCells z (grownCap w m 0 e - m)) e)).drew).ownsRow w.heap.size e 9 (.slice (some ⟨w.heap.size,0,none⟩) 0 (grownCap w m 0 e)) 0 []:=by
 have hge:=grownCap_ge w m 0 e
 have hcm:grownCap w m 0 e<=maxLen:=grownCap_le_maxLen w m 0 e h1
 refine ⟨⟨rfl,rfl,rfl,by simp,fun b hb _=>yg w.drew _ b hb⟩,rfl,.inr ⟨w.heap.size,_,_,rfl,Nat.le_refl _,heap_alloc_new w.drew _,Nat.zero_le _,hcm,?_,?_⟩⟩
 ·simp only [Array.size_append,size_zeroCells,hz,← Nat.add_mul]
  congr 1
  omega
 ·rfl
set_option maxRecDepth 100000 in
theorem zw5:Tryz.prog.types[38].bytes=88:=by decide
theorem zy0 (m:Nat) (h:0 < m):Builtin.nextslicecap m 0=m:=by
 unfold Builtin.nextslicecap
 rw [if_pos (by omega)]
set_option maxRecDepth 100000 in
set_option maxHeartbeats 2000000 in
theorem yh9 (n:Nat) (m:Nat) (h1:m<=maxLen) (h2:m * 88<=140737488355328) (w:World) :
  CallsIn Fence.wide n Tryz.prog 106 #[.slice none 0 0,.int .i64 m] w fun e w'=>
   ∃ v,e = .returned v/\w.grownBy w' none/\w'.ownsRow w.heap.size 38 9 v 0 []:=by
 have hb:Tryz.t38.bytes=88:=zw5
 refine callsIn_of_wp Tryz.func106 rfl trivial ?_ rfl
 simp only [Tryz.ntmps106,List.size_toArray,List.length_cons,List.length_nil,Nat.reduceAdd,Nat.reduceSub,Array.replicate_succ,Array.replicate_zero,List.push_toArray,List.append_toArray,List.nil_append,List.cons_append]
 gi_wp2
 all_goals first
  |(exfalso; simp only [hb] at *; omega)
  |(exfalso; rename_i hlt _ _ _ _ _ ; rw [zy0 _ (by omega),hb] at *; omega)
  |(go_ret; exact ⟨_,rfl,World.grownBy.refl _ _,World.ownsRow_nil _ _ _ _⟩)
  |(go_ret; exact ⟨_,rfl,yb5 w m _ rfl h1 _⟩)
theorem yb3:GrowOK Tryz.prog 106 38 qc 88:=
 ⟨enters (fn:=Tryz.f106) (by kernel_rfl) rfl rfl,fun w n h1 h2=>(callsIn_wide.1 (yh9 1 n h1 h2 w))⟩
end Go.Proofs.YtgieagiaagoogaaGreat
namespace Go.Proofs.YtgieagiaagoogaaGreat
open Go Go.Ab Go.RowKit Go.Proofs
abbrev lls:Ty:=.sl (.sl qc)
noncomputable def CCc:Cx:=cxK [] [] (zsv 106 38 qc 88)
theorem qts:CxOK Tryz.prog CCc:=qcz (cs:=[]) (ps:=[]) qv trivial trivial (yb4 yb3)
abbrev qjp:Pt:=⟨36,0,⟨[(0,.d lls),(9,.d lls),(10,.d i64),(11,.d i64),(3,.d i64)],[]⟩,⟨[(0,.d lls),(3,.d i64)],[]⟩,⟨[],[]⟩⟩
abbrev qjq:Pt:=⟨36,2,⟨[(25,.d lls),(26,.d i64),(27,.d i64)],[.o 6 38 qc]⟩,⟨[],[.o 6 38 qc]⟩,⟨[],[]⟩⟩
def zsd (x:qjp.M.X):Fr qjp.Out:=
 let l0:List (List qc.den):=x.1.1; let l:List (List qc.den):=x.1.2.1; let n:Int:=x.1.2.2.1; let i:Int:=x.1.2.2.2.1; let s:Int:=x.1.2.2.2.2.1
 Fr.br (decide (i < n))
  (Fr.need (0<=i/\i < (l.length:Int))
   (Fr.br (decide (IntKind.i64.wrap (s+((List.length (α:=qc.den) (l.getD i.toNat []):Nat):Int)) < 0)) (Fr.need False (Fr.val (Rd.back ((),()))))
    (Fr.val (Rd.next ((l0,l,n,IntKind.i64.wrap (i+1),IntKind.i64.wrap (s+((List.length (α:=qc.den) (l.getD i.toNat []):Nat):Int)),()),())))))
  (Fr.val (Rd.out ((l0,s,()),())))
theorem yoa:qe Tryz.prog (qo Tryz.f72 0) qjp.M qjp zsd:=
 qe.of_run qts (bs:=0) (Λ:=qp) rfl rfl rfl (fun E=>qd _ 0) (fun x=>by kernel_rfl)
def zse (x:qjq.M.X):Fr qjq.Out:=
 let l:List (List qc.den):=x.1.1; let n:Int:=x.1.2.1; let i:Int:=x.1.2.2.1; let o:List qc.den:=x.2.1
 Fr.br (decide (i < n))
  (Fr.need (0<=i/\i < (l.length:Int))
   (Fr.need (zg3 o.length (List.length (α:=qc.den) (l.getD i.toNat [])))
    (Fr.val (Rd.next ((l,n,IntKind.i64.wrap (i+1),()),(o++l.getD i.toNat [],()))))))
  (Fr.val (Rd.out ((),(o,()))))
theorem yob:qe Tryz.prog (qo Tryz.f72 1) qjq.M qjq zse:=
 qe.of_run qts (bs:=0) (Λ:=qp) rfl rfl rfl (fun E=>qd _ 0) (fun x=>by kernel_rfl)
structure InvCc1 (l:List (List qc.den)) (n i s:Int):Prop where
 i0:0<=i
 il:i<=n
 nl:n=l.length
 big:(l.length:Int)<=9223372036854775807
 few:l.flatten.length<=1000000
 s0:s=((l.take i.toNat).flatten.length:Nat)
def zz1 (x:qjp.M.X):Fr qjp.Out:=Fr.need (x.1.1=x.1.2.1/\InvCc1 x.1.2.1 x.1.2.2.1 x.1.2.2.2.1 x.1.2.2.2.2.1) (Fr.val (Rd.out ((x.1.1,((List.flatten (α:=qc.den) x.1.2.1).length:Int),()),())))
theorem zff (l:List (List qc.den)) {k:Nat} (hk:k < l.length):(l.take (k+1)).flatten=(l.take k).flatten++l.getD k []:=by
 rw [List.take_add_one,List.flatten_append,List.getElem?_eq_getElem hk,List.getD_eq_getElem?_getD,List.getElem?_eq_getElem hk]
 simp
theorem qvq (l:List (List qc.den)) (k:Nat):(l.take k).flatten.length<=l.flatten.length:=by
 conv=>rhs; rw [← List.take_append_drop k l]
 rw [List.flatten_append,List.length_append]
 omega
theorem ym7 (l0 l:List (List qc.den)) (n i s:Int) (hinv:l0=l/\InvCc1 l n i s) (Q:qjp.Out->Prop) (hq:Q (Rd.out ((l0,(l.flatten.length:Int),()),()))):(zsd ((l0,l,n,i,s,()),())).satP fun
   |.next x'=>(x'.1.1=x'.1.2.1/\InvCc1 x'.1.2.1 x'.1.2.2.1 x'.1.2.2.2.1 x'.1.2.2.2.2.1)/\(x'.1.2.2.1 - x'.1.2.2.2.1).toNat < (n - i).toNat/\(zz1 x').satP Q
   |.out y=>Q (.out y)
   |.back z=>Q (.back z)
   |.pan p=>Q (.pan p):=by
 obtain ⟨rfl,h0,h1,h2,h3,h4,h5⟩:=hinv
 obtain ⟨k,rfl⟩:∃ k:Nat,i=k:=⟨i.toNat,by omega⟩
 subst h2
 dsimp only [zsd,Fr.satP]
 rw [Int.toNat_natCast] at h5 ⊢
 refine ⟨fun hi=>?_,fun hi=>?_⟩
 ·have hk:k < l0.length:=by have:(k:Int) < (l0.length:Int):=of_decide_eq_true hi; omega
  have hf:=zff l0 hk
  have hle:=qvq l0 (k+1)
  have hlen:=congrArg List.length hf
  rw [List.length_append] at hlen
  have w1:IntKind.i64.wrap ((k:Int)+1)=((k+1:Nat):Int):=by rw [qdf (by omega)]; omega
  have w2:IntKind.i64.wrap (s+((l0.getD k []).length:Int))=(((l0.take (k+1)).flatten.length:Nat):Int):=by rw [qdf (by omega)]; omega
  rw [w1,w2]
  refine ⟨⟨by omega,by omega⟩,fun hn=>?_,fun _=>?_⟩
  ·have:((((l0.take (k+1)).flatten.length:Nat):Int) < 0):=of_decide_eq_true hn
   omega
  ·have hI:InvCc1 l0 l0.length ((k+1:Nat):Int) (((l0.take (k+1)).flatten.length:Nat):Int):=⟨by omega,by omega,rfl,h3,h4,by rw [Int.toNat_natCast]⟩
   exact ⟨⟨rfl,hI⟩,by omega,⟨rfl,hI⟩,hq⟩
 ·have hk:¬ (k:Int) < (l0.length:Int):=of_decide_eq_false hi
  rw [List.take_of_length_le (by omega)] at h5
  rw [h5]
  exact hq
theorem yiv:qe Tryz.prog (.loop (qo Tryz.f72 0)) qjp.M qjp zz1:=by
 refine qe.loop (n:=36) (id:=0) yoa (inv:=fun x=>x.1.1=x.1.2.1/\InvCc1 x.1.2.1 x.1.2.2.1 x.1.2.2.2.1 x.1.2.2.2.2.1) (μ:=fun x=>(x.1.2.2.1 - x.1.2.2.2.1).toNat) ?_ (fun x Q h=>h.1)
 rintro ⟨⟨l0,l,n,i,s,_⟩,_⟩ hinv Q hq
 exact ym7 l0 l n i s hinv Q hq.2
structure InvCc2 (l:List (List qc.den)) (n i:Int) (o:List qc.den):Prop where
 i0:0<=i
 il:i<=n
 nl:n=l.length
 big:(l.length:Int)<=9223372036854775807
 few:l.flatten.length<=1000000
 o0:o=(l.take i.toNat).flatten
def zz2 (x:qjq.M.X):Fr qjq.Out:=Fr.need (InvCc2 x.1.1 x.1.2.1 x.1.2.2.1 x.2.1) (Fr.val (Rd.out ((),(List.flatten (α:=qc.den) x.1.1,()))))
theorem ydp {n m:Nat} (h:n+m<=1000000):zg3 n m:=by
 refine ⟨by unfold maxLen; omega,Nat.le_trans (Nat.mul_le_mul h qw5) (by decide)⟩
theorem ym8 (l:List (List qc.den)) (n i:Int) (o:List qc.den) (hinv:InvCc2 l n i o) (Q:qjq.Out->Prop) (hq:Q (Rd.out ((),(l.flatten,())))):(zse ((l,n,i,()),(o,()))).satP fun
   |.next x'=>InvCc2 x'.1.1 x'.1.2.1 x'.1.2.2.1 x'.2.1/\(x'.1.2.1 - x'.1.2.2.1).toNat < (n - i).toNat/\(zz2 x').satP Q
   |.out y=>Q (.out y)
   |.back z=>Q (.back z)
   |.pan p=>Q (.pan p):=by
 obtain ⟨h0,h1,h2,h3,h4,h5⟩:=hinv
 obtain ⟨k,rfl⟩:∃ k:Nat,i=k:=⟨i.toNat,by omega⟩
 subst h2
 dsimp only [zse,Fr.satP]
 rw [Int.toNat_natCast] at h5 ⊢
 subst h5
 refine ⟨fun hi=>?_,fun hi=>?_⟩
 ·have hk:k < l.length:=by have:(k:Int) < (l.length:Int):=of_decide_eq_true hi; omega
  have hf:=zff l hk
  have hle:=qvq l (k+1)
  have hlen:=congrArg List.length hf
  rw [List.length_append] at hlen
  have w1:IntKind.i64.wrap ((k:Int)+1)=((k+1:Nat):Int):=by rw [qdf (by omega)]; omega
  rw [w1,← hf]
  have hI:InvCc2 l l.length ((k+1:Nat):Int) (l.take (k+1)).flatten:=⟨by omega,by omega,rfl,h3,h4,by rw [Int.toNat_natCast]⟩
  exact ⟨⟨by omega,by omega⟩,ydp (by omega),hI,by omega,hI,hq⟩
 ·have hk:¬ (k:Int) < (l.length:Int):=of_decide_eq_false hi
  rw [List.take_of_length_le (by omega)]
  exact hq
theorem yiw:qe Tryz.prog (.loop (qo Tryz.f72 1)) qjq.M qjq zz2:=by
 refine qe.loop (n:=36) (id:=2) yob (inv:=fun x=>InvCc2 x.1.1 x.1.2.1 x.1.2.2.1 x.2.1) (μ:=fun x=>(x.1.2.1 - x.1.2.2.1).toNat) ?_ (fun x Q h=>h.1)
 rintro ⟨⟨l,n,i,_⟩,o,_⟩ hinv Q hq
 exact ym8 l n i o hinv Q hq.2
def qv2:Ct:=⟨[.d lls],[.sl qc],fun x=>(List.flatten (α:=qc.den) x.1,()),fun x=>[(List.flatten (α:=qc.den) x.1).length<=1000000]⟩
def qx9 (x:qm [.d lls]):Fr (qi [.sl qc]):=
 let l:List (List qc.den):=x.1
 Fr.need (l=l/\InvCc1 l l.length 0 0)
  (Fr.need (0<=((l.flatten.length:Nat):Int)/\((l.flatten.length:Nat):Int)<=maxLen/\((l.flatten.length:Nat):Int) * (88:Nat)<=140737488355328)
   (Fr.need (InvCc2 l l.length 0 []) (Fr.val (l.flatten,()))))
theorem zrn:qa Tryz.prog 72 ⟨[.d lls],[.sl qc],fun xs=>(qx9 xs).get,fun xs=>[(qx9 xs).ok]⟩:=
 qg qts (Λ:=(fun k=>if k=0 then qjp.han CCc.Γ qjp.M zz1 else qjq.han CCc.Γ qjq.M zz2)) (fn:=Tryz.f72) (fr:=qx9) (ps:=[.d lls]) (rs:=[.sl qc]) ([],()) (by kernel_rfl)
  (fun c E hc=>zgv hc (by kernel_rfl) (b0:=qo Tryz.f72 0) (b1:=qo Tryz.f72 1) (by kernel_rfl) (by kernel_rfl) (qe.han qts rfl yiv) (qe.han qts rfl yiw)) (fun x=>by kernel_rfl)
theorem zv0:qa Tryz.prog 72 qv2:=
 vt zrn _ _ (fun w F x vs hr hok=>by
  obtain ⟨l,_⟩:=x
  obtain ⟨v,vs',rfl,hv,_⟩:=hr
  have hlen:(List.length (α:=List qc.den) l:Int)<=9223372036854775807:=qm8 (qs.wf hv.2.2).1
  have hf:(List.flatten (α:=qc.den) l).length<=1000000:=hok
  refine Fr.need_ ⟨rfl,⟨Int.le_refl _,Int.natCast_nonneg _,rfl,hlen,hf,rfl⟩⟩ (Fr.need_ ⟨by omega,?_,?_⟩ (Fr.need_ ⟨Int.le_refl _,Int.natCast_nonneg _,rfl,hlen,hf,rfl⟩ ⟨trivial,rfl⟩))
  ·show ((List.flatten (α:=qc.den) l).length:Int)<=(maxLen:Int)
   unfold maxLen
   omega
  ·show ((List.flatten (α:=qc.den) l).length:Int) * ((88:Nat):Int)<=140737488355328
   omega)
noncomputable def tnC:Code:=(Tryz.f71.body.map zp6).getD .skip
noncomputable def tnA:Code:=(Tryz.f71.body.map zw7).getD .skip
noncomputable def tnR:Code:=(findLabel tnC 0).getD .skip
noncomputable def CTn:Cx:=cx [(105,zib)] []
theorem qy1:CxOK Tryz.prog CTn:=zb qv ⟨zlb,trivial⟩ trivial
def qtt:LS:=⟨[],[.x 1 54 ql,.r 1 1 0]⟩
def MTn:LS:=⟨[(4,.d (.sl i64)),(5,.d i64)],[.x 1 54 ql,.r 1 1 0]⟩
def zts:Pt:=⟨34,0,MTn,⟨[],[]⟩,⟨[(2,.d i64),(3,.d .bool)],[]⟩⟩
def zav:Pt:=⟨34,0,qtt,⟨[],[]⟩,⟨[(2,.d i64),(3,.d .bool)],[]⟩⟩
def fTn (x:MTn.X):Fr zts.Out:=
 let l:List Int:=x.1.1; let k:Int:=x.1.2.1; let h:ql.den:=x.2.1
 let v:Int:=l.getD (IntKind.i64.wrap (k - 1)).toNat 0
 Fr.br (k==0) (Fr.val (Rd.back ((0,false,()),())))
  (Fr.need (0<=IntKind.i64.wrap (k - 1)/\IntKind.i64.wrap (k - 1) < (l.length:Int))
   (Fr.need (0<=v/\v < ((chL h).length:Int))
    (Fr.br (bif ((chL h).getD v.toNat qc.dflt).2.2.1 != 3 then ((chL h).getD v.toNat qc.dflt).2.2.1 != 4 else false)
     (Fr.val (Rd.next ((l,IntKind.i64.wrap (k - 1),()),(h,()))))
     (Fr.need (0<=IntKind.i64.wrap (k - 1)/\IntKind.i64.wrap (k - 1) < (l.length:Int)) (Fr.val (Rd.back ((v,true,()),())))))))
def yrb (x:qtt.X):Fr zts.Out:=
 let h:ql.den:=x.2.1
 Fr.need (((chL h).length:Int)<=1000000) (fTn ((vu h,((vu h).length:Int),()),(h,())))
theorem yoc:qch Tryz.prog 0 tnC qtt zts yrb:=qch.of_run qy1 (bs:=0) rfl rfl rfl (fun _=>qd _ 0) (fun x=>by kernel_rfl)
theorem yqh:qch Tryz.prog 0 tnR MTn zts fTn:=qch.of_run qy1 (bs:=0) rfl rfl rfl (fun _=>qd _ 0) (fun x=>by kernel_rfl)
def isT (c:qc.den):Bool:=c.2.2.1==3 || c.2.2.1==4
def qjy (h:ql.den) (l:List Int):Nat->Option Int
 |0=>none
 |k+1=>if isT (vn h (l.getD k 0))=true then some (l.getD k 0) else qjy h l k
structure InvTn (l:List Int) (k:Int) (h:ql.den):Prop where
 k0:0<=k
 kl:k<=l.length
 big:l.length<=1000000
 mem:∀ v ∈ l,0<=v/\v < ((chL h).length:Int)
def zg1 (o:Option Int):Rd qtt.X (LS.X ⟨[],[]⟩) (LS.X ⟨[(2,.d i64),(3,.d .bool)],[]⟩):=Rd.back ((o.getD 0,o.isSome,()),())
def FTn (x:MTn.X):Fr zav.Out:=Fr.need (InvTn x.1.1 x.1.2.1 x.2.1) (Fr.val (zg1 (qjy x.2.1 x.1.1 (x.1.2.1:Int).toNat)))
def ylc (x:qtt.X):Fr zav.Out:=Fr.need (((chL x.2.1).length:Int)<=1000000) (Fr.val (zg1 (qjy x.2.1 (vu x.2.1) (vu x.2.1).length)))
theorem yck (c:qc.den):(bif c.2.2.1 != 3 then c.2.2.1 != 4 else false) = !isT c:=by
 unfold isT
 show (bif !(c.2.2.1==3) then !(c.2.2.1==4) else false) = !(c.2.2.1==3 || c.2.2.1==4)
 cases c.2.2.1==3<;>cases c.2.2.1==4<;>rfl
theorem yf3 (l:List Int) (k:Int) (h:ql.den) (hinv:InvTn l k h) (Q:zav.Out->Prop) (hq:Q (zg1 (qjy h l k.toNat))):(fTn ((l,k,()),(h,()))).satP fun
   |.next x'=>InvTn x'.1.1 x'.1.2.1 x'.2.1/\(x'.1.2.1:Int).toNat < k.toNat/\(FTn x').satP Q
   |.out y=>Q (.out y)
   |.back z=>Q (.back z)
   |.pan p=>Q (.pan p):=by
 obtain ⟨h0,h1,h2,h3⟩:=hinv
 obtain ⟨n,rfl⟩:∃ n:Nat,k=n:=⟨k.toNat,by omega⟩
 rw [Int.toNat_natCast] at hq ⊢
 cases n with
 |zero=>exact ⟨fun _=>hq,fun hb=>(by cases hb)⟩
 |succ m=>
  have w1:IntKind.i64.wrap (((m+1:Nat):Int) - 1)=(m:Int):=by rw [qdf (by omega)]; omega
  have hm:m < l.length:=by omega
  dsimp only [fTn,Fr.satP]
  rw [w1,Int.toNat_natCast]
  have hv:l.getD m 0=l[m]:=by rw [List.getD_eq_getElem?_getD,List.getElem?_eq_getElem hm]; rfl
  have hmem:=h3 (l.getD m 0) (by rw [hv]; exact List.getElem_mem hm)
  have hb:0<=(m:Int)/\(m:Int) < (l.length:Int):=⟨by omega,by omega⟩
  have hkd:=yck (vn h (l.getD m 0))
  refine ⟨fun hz=>?_,fun _=>⟨hb,hmem,fun hk=>?_,fun hk=>⟨hb,?_⟩⟩⟩
  ·exfalso
   have:((m+1:Nat):Int)=0:=eq_of_beq hz
   omega
  ·have ht:isT (vn h (l.getD m 0))=false:=by
    have hk':(bif (vn h (l.getD m 0)).2.2.1 != 3 then (vn h (l.getD m 0)).2.2.1 != 4 else false)=true:=hk
    rw [hkd] at hk'
    simpa using hk'
   have hI:InvTn l (m:Int) h:=⟨by omega,by omega,h2,h3⟩
   refine ⟨hI,Nat.lt_succ_self m,hI,?_⟩
   show Q (zg1 (qjy h l (m:Int).toNat))
   rw [Int.toNat_natCast]
   have e:qjy h l (m+1)=qjy h l m:=if_neg (by rw [ht]; decide)
   rw [← e]
   exact hq
  ·have ht:isT (vn h (l.getD m 0))=true:=by
    have hk':(bif (vn h (l.getD m 0)).2.2.1 != 3 then (vn h (l.getD m 0)).2.2.1 != 4 else false)=false:=hk
    rw [hkd] at hk'
    simpa using hk'
   have e:qjy h l (m+1)=some (l.getD m 0):=if_pos ht
   rw [e] at hq
   exact hq
theorem yjn:qe Tryz.prog (.scope tnC) qtt zav ylc:=
 qch.scope2 (n:=34) (id:=0) (N:=qtt) (rest:=tnR) (by kernel_rfl) yoc yqh (F:=FTn) (inv:=fun x=>InvTn x.1.1 x.1.2.1 x.2.1) (μ:=fun x=>(x.1.2.1:Int).toNat)
  (by
   rintro ⟨_,h,_⟩ Q hq
   have hlen:(vu h).length=(chL h).length:=ql7 h
   have h1:((chL h).length:Int)<=1000000:=hq.1
   have hI:InvTn (vu h) ((vu h).length:Int) h:=⟨Int.natCast_nonneg _,Int.le_refl _,by omega,fun v hv=>qss hv⟩
   refine ⟨h1,Fr.satP_mono ?_ (yf3 (vu h) ((vu h).length:Int) h hI Q ?_)⟩
   ·intro r hr
    cases r with
    |next x'=>exact ⟨hr.1,hr.2.2⟩
    |out y=>exact hr
    |back z=>exact hr
    |pan p=>exact hr
   ·rw [Int.toNat_natCast]
    exact hq.2)
  (by
   rintro ⟨⟨l,k,_⟩,h,_⟩ hinv Q hq
   exact yf3 l k h hinv Q hq.2)
def qk7 (h:ql.den):Option Int:=qjy h (vu h) (vu h).length
def qrs:Ct:=⟨[.d ql],[i64,.bool],fun x=>((qk7 x.1).getD 0,(qk7 x.1).isSome,()),fun x=>[((chL x.1).length:Int)<=1000000]⟩
theorem yj9:qa Tryz.prog 71 qrs:=
 vt (zki (run:=qtc (yy Tryz.prog CTn 0 qp tnA 0) (zav.han CTn.Γ qtt ylc)) (fn:=Tryz.f71) (c:=.seq tnA (.scope tnC)) (ps:=[.d ql]) (rs:=[i64,.bool])
  (fr:=fun x=>Fr.need (((chL x.1).length:Int)<=1000000) (Fr.val ((qk7 x.1).getD 0,(qk7 x.1).isSome,()))) (ql.dflt,()) (by kernel_rfl) (by kernel_rfl)
  (fun E=>qlz (qif qy1 (qd _ 0)) (qe.run qy1 rfl yjn)) (fun x=>by kernel_rfl)) _ _ (fun _ _ _ _ _ hok=>Fr.need_ hok ⟨trivial,rfl⟩)
def tlC:Code->Code
 |.seq _ c=>c
 |_=>.skip
def hdC:Code->Code
 |.seq c _=>c
 |_=>.skip
def ztm:Code->Array Oper
 |.region _ ops _=>ops
 |_=>#[]
noncomputable def bwC:Code:=(Tryz.f73.body.map fun c=>tlC (tlC c)).getD .skip
noncomputable def CBw:Cx:=cx [(104,xr)] [(108,je),(109,qa5),(110,qb4)]
theorem qtr:CxOK Tryz.prog CBw:=zb qv ⟨qu8,trivial⟩ ⟨zis,zcx,zqa,trivial⟩
noncomputable def yf9:St->Option Tr:=
 qtc (yy Tryz.prog CBw 0 qp (hdC bwC) 0) (qtc (yy Tryz.prog CBw 0 qp (hdC (tlC bwC)) 0)
  (qtc (zc7 Tryz.prog CBw 0 (ztm (hdC (tlC (tlC bwC)))).toList) (yy Tryz.prog CBw 0 qp (tlC (tlC (tlC bwC))) 0)))
def zsc (b1 b2:Bool) (p1 p2:PV) (v:Int):Fr (qi [i64,i64]):=
 Fr.br b1 (Fr.need (b1=false->b1=false) (Fr.need (b1=true->True/\p1=p1) (Fr.need (b2=false->b2=false) (Fr.need (b2=true->True/\p2=p1) (Fr.need (inR .i64 p1.n) (Fr.val (0,p1.n,())))))))
  (Fr.br b2 (Fr.need (b1=false->b1=false) (Fr.need (b1=true->True/\p1=p2) (Fr.need (b2=false->b2=false) (Fr.need (b2=true->True/\p2=p2) (Fr.need (inR .i64 p2.n) (Fr.val (0,p2.n,())))))))
   (Fr.need (b1=false) (Fr.need (b2=false) (Fr.val (v,0,())))))
def zsb (f:zg.den) (a b:Int):Fr (qi [i64,i64]):=
 zsc (qb4.bad (f,b,())) (qb4.bad (f,a,())) (qb4.pv (f,b,())) (qb4.pv (f,a,())) (IntKind.i64.wrap ((qb4.f (f,b,())).1 - (qb4.f (f,a,())).1))
def ybs (x:qm [.d qac,.d zw]):Fr (qi [i64,i64]):=
 Fr.br (je.bad (x.1,())) (Fr.need (inR .i64 (je.pv (x.1,())).n) (Fr.val (0,(je.pv (x.1,())).n,())))
  (Fr.br (!(xr.f (x.2.1,())).1)
   (Fr.br (qa5.bad (1,())) (Fr.need (inR .i64 (qa5.pv (1,())).n) (Fr.val (0,(qa5.pv (1,())).n,()))) (zsb (je.f (x.1,())).1 x.2.1.1 x.2.1.2.1))
   (zsb (je.f (x.1,())).1 x.2.1.1 x.2.1.2.1))
theorem ydt (E:Env):qkq Tryz.prog E bwC yf9:=
 qlz (x:=hdC bwC) (y:=tlC bwC) (qif qtr (qd _ 0)) (qlz (x:=hdC (tlC bwC)) (y:=tlC (tlC bwC)) (qif qtr (qd _ 0))
  (qlz (x:=hdC (tlC (tlC bwC))) (y:=tlC (tlC (tlC bwC))) (zob (id:=5) (ops:=ztm (hdC (tlC (tlC bwC)))) qtr) (qif qtr (qd _ 0))))
theorem zqc:qa Tryz.prog 73 ⟨[.d qac,.d zw],[i64,i64],fun xs=>(ybs xs).get,fun xs=>[(ybs xs).ok]⟩:=
 yba qtr (run:=yf9) (fn:=Tryz.f73) (A:=hdC (Tryz.f73.body.getD .skip)) (c:=bwC) (rid:=1) (ops:=ztm (hdC (tlC (Tryz.f73.body.getD .skip)))) (tp:=5) (fr:=ybs) (ps:=[.d qac,.d zw]) (rs:=[i64,i64]) ([],(0,0,()),()) (by kernel_rfl) (by kernel_rfl) (by kernel_rfl) zp8 ydt (fun x=>by kernel_rfl)
theorem yp8 {u1 u2:Int × Int} {b1 b2:Bool} {v:Int} (h1:b1 = !(u1.2==0)) (h2:b2 = !(u2.2==0)) :
  (if b1=true then ((0:Int),u1.2,()) else if b2=true then ((0:Int),u2.2,()) else (v,(0:Int),())) =
   ((if u1.2 ≠ 0 then ((0:Int),u1.2) else if u2.2 ≠ 0 then ((0:Int),u2.2) else (v,(0:Int))).1,(if u1.2 ≠ 0 then ((0:Int),u1.2) else if u2.2 ≠ 0 then ((0:Int),u2.2) else (v,(0:Int))).2,()):=by
 subst h1
 subst h2
 by_cases q1:u1.2=0
 ·by_cases q2:u2.2=0
  ·simp [q1,q2]
  ·simp [q1,q2]
 ·simp [q1]
theorem yg7 {a b:Int} (h1:0<=a/\a<=4000000000000000000) (h2:0<=b/\b<=4000000000000000000) : -9223372036854775808<=a - b/\a - b<=9223372036854775807:=by omega
theorem ybt {b1 b2:Bool} {p1 p2:PV} {v:Int} (h:b1=true->b2=true->p2=p1) (h1:inR .i64 p1.n) (h2:inR .i64 p2.n) :
  (zsc b1 b2 p1 p2 v).ok/\(zsc b1 b2 p1 p2 v).get=if b1=true then (0,p1.n,()) else if b2=true then (0,p2.n,()) else (v,0,()):=by
 cases b1 with
 |true=>exact ⟨⟨fun _=>⟨fun h=>(by cases h),fun _=>⟨trivial,rfl⟩,fun h=>h,fun hb=>⟨trivial,h rfl hb⟩,h1,trivial⟩,fun h=>(by cases h)⟩,rfl⟩
 |false=>
  cases b2 with
  |true=>exact ⟨⟨fun h=>(by cases h),fun _=>⟨fun _=>⟨fun h=>h,fun h=>(by cases h),fun h=>(by cases h),fun _=>⟨trivial,rfl⟩,h2,trivial⟩,fun h=>(by cases h)⟩⟩,rfl⟩
  |false=>exact ⟨⟨fun h=>(by cases h),fun _=>⟨fun h=>(by cases h),fun _=>⟨rfl,rfl,trivial⟩⟩⟩,rfl⟩
def qb3 (l:List qk.den) (s:zw.den):Int × Int:=
 if (qa6 l).isNone=true ∨ qdt s=false then (0,1)
 else if (yb (ya l) s.2.1).2 ≠ 0 then (0,(yb (ya l) s.2.1).2)
 else if (yb (ya l) s.1).2 ≠ 0 then (0,(yb (ya l) s.1).2)
 else ((yb (ya l) s.2.1).1 - (yb (ya l) s.1).1,0)
def qqm:Ct:=⟨[.d qac,.d zw],[i64,i64],fun x=>((qb3 x.1 x.2.1).1,(qb3 x.1 x.2.1).2,()),fun _=>[]⟩
theorem yaj:qa Tryz.prog 73 qqm:=
 conv zqc _ _ fun w F xs vs hr _=>by
  obtain ⟨l,s,_⟩:=xs
  by_cases hc:(qa6 l).isNone=true
  ·have hb:je.bad (l,())=true:=hc
   refine ⟨⟨fun _=>⟨zcc ybe,trivial⟩,fun h=>(by have h':je.bad (l,())=false:=h; rw [hb] at h'; cases h')⟩,?_⟩
   show (if je.bad (l,())=true then ((0:Int),(1:Int),()) else _)=((qb3 l s).1,(qb3 l s).2,())
   unfold qb3
   rw [hb,if_pos rfl,if_pos (.inl hc)]
  ·have hc':(qa6 l).isNone=false:=Bool.eq_false_iff.2 hc
   have hb:je.bad (l,())=false:=hc'
   have hp:=zv3 hc'
   by_cases hs:qdt s=true
   ·have hn:(!(xr.f (s,())).1)=false:=by show (!(qdt s))=false; rw [hs]; rfl
    have hpv:qb4.bad (ya l,s.2.1,())=true->qb4.bad (ya l,s.1,())=true->qb4.pv (ya l,s.1,())=qb4.pv (ya l,s.2.1,()):=by
     intro h1 h2
     have key:∀ d,qb4.bad (ya l,d,())=true->(yb (ya l) d).2=5:=fun d hd=>by
      have hd':(!((yb (ya l) d).2==0))=true:=hd
      rw [zuv hp] at hd' ⊢
      split
      ·rename_i hle
       rw [if_pos hle] at hd'
       cases hd'
      ·rfl
     show (⟨_,_,(yb (ya l) s.1).2⟩:PV)=⟨_,_,(yb (ya l) s.2.1).2⟩
     rw [key _ h1,key _ h2]
    obtain ⟨k1,k2⟩:=ybt (v:=IntKind.i64.wrap ((qb4.f (ya l,s.2.1,())).1 - (qb4.f (ya l,s.1,())).1)) hpv (zcc (qvs (ya l) s.2.1)) (zcc (qvs (ya l) s.1))
    refine ⟨⟨fun h=>(by have h':je.bad (l,())=true:=h; rw [hb] at h'; cases h'),fun _=>⟨fun h=>(by have h':(!(xr.f (s,())).1)=true:=h; rw [hn] at h'; cases h'),fun _=>k1⟩⟩,?_⟩
    show (if je.bad (l,())=true then _ else if (!(xr.f (s,())).1)=true then _ else (zsb (ya l) s.1 s.2.1).get)=((qb3 l s).1,(qb3 l s).2,())
    rw [hb,if_neg (by decide),hn,if_neg (by decide)]
    refine k2.trans ?_
    have hw:=qdf (yg7 (qvt (ya l) s.2.1) (qvt (ya l) s.1))
    have hG:qb3 l s=if (yb (ya l) s.2.1).2 ≠ 0 then (0,(yb (ya l) s.2.1).2) else if (yb (ya l) s.1).2 ≠ 0 then (0,(yb (ya l) s.1).2) else ((yb (ya l) s.2.1).1 - (yb (ya l) s.1).1,0):=if_neg (fun h=>h.elim hc (fun h=>by rw [hs] at h; cases h))
    rw [hG,← hw]
    exact yp8 rfl rfl
   ·have hn:(!(xr.f (s,())).1)=true:=by show (!(qdt s))=true; simpa using hs
    refine ⟨⟨fun h=>(by have h':je.bad (l,())=true:=h; rw [hb] at h'; cases h'),fun _=>⟨fun _=>⟨fun _=>⟨zcc ybe,trivial⟩,fun h=>(by cases h)⟩,fun h=>(by have h':(!(xr.f (s,())).1)=false:=h; rw [hn] at h'; cases h')⟩⟩,?_⟩
    show (if je.bad (l,())=true then _ else if (!(xr.f (s,())).1)=true then ((0:Int),(1:Int),()) else _)=((qb3 l s).1,(qb3 l s).2,())
    have hB:qb3 l s=(0,1):=if_pos (.inr (by simpa using hs))
    rw [hb,if_neg (by decide),hn,if_pos rfl,hB]
noncomputable def CKp:Cx:=cx [(46,cOf),(71,qrs),(72,qv2),(73,qqm),(74,cBp)] []
theorem yku:CxOK Tryz.prog CKp:=zb qv ⟨ztc,yj9,zv0,yaj,yfh,trivial⟩ trivial
def qyr (h:ql.den) (a:Int):List (List qc.den):=
 [List.take (a - 0).toNat (List.drop (0:Int).toNat (chL h)),List.take (((chL h).length:Int) - IntKind.i64.wrap (a+1)).toNat (List.drop (IntKind.i64.wrap (a+1)).toNat (chL h))]
def za8 (h:ql.den) (l:List qc.den):ql.den:=(h.1,h.2.1,h.2.2.1,l,())
def zsh (h x:ql.den) (t:zd.den) (day:Int):Fr (qi [i64,i64]):=
 Fr.need (jf x) (Fr.need (jq t)
  (Fr.br ((cOf.f (x,t,())).2.1 != 0) (Fr.val (0,(cOf.f (x,t,())).2.1,()))
   (Fr.br ((qqm.f ((cOf.f (x,t,())).1,(day,h.2.2.1.1.2.1,()),())).2.1 != 0) (Fr.val (0,(qqm.f ((cOf.f (x,t,())).1,(day,h.2.2.1.1.2.1,()),())).2.1,()))
    (Fr.val ((cBp.f ((qqm.f ((cOf.f (x,t,())).1,(day,h.2.2.1.1.2.1,()),())).1,1000,())).1,(cBp.f ((qqm.f ((cOf.f (x,t,())).1,(day,h.2.2.1.1.2.1,()),())).1,1000,())).2.1,())))))
def quk (x:qm [.d ql,.d zd]):Fr (qi [i64,i64]):=
 let h:ql.den:=x.1; let t:zd.den:=x.2.1
 let a:Int:=(qrs.f (h,())).1; let is:Bool:=(qrs.f (h,())).2.1
 Fr.need (jf h) (Fr.need (jq t) (Fr.br ((cOf.f (h,t,())).2.1 != 0) (Fr.val (0,(cOf.f (h,t,())).2.1,()))
  (Fr.need (((chL h).length:Int)<=1000000)
   (Fr.need ((!is)=false->0<=a/\a < ((chL h).length:Int))
    (Fr.need ((bif !is then true else ((chL h).getD a.toNat qc.dflt).2.2.1 != 3)=false->0<=a/\a < ((chL h).length:Int))
     (Fr.br (bif bif !is then true else ((chL h).getD a.toNat qc.dflt).2.2.1 != 3 then true else ((chL h).getD a.toNat qc.dflt).2.2.2.2.2.1 != 1) (Fr.val (0,0,()))
      (Fr.need (0<=a/\a < ((chL h).length:Int))
       (Fr.need (0<=(none:Option Int).getD 0/\(none:Option Int).getD 0<=a/\a<=((chL h).length:Int))
        (Fr.need (0<=IntKind.i64.wrap (a+1)/\IntKind.i64.wrap (a+1)<=((chL h).length:Int)/\((chL h).length:Int)<=((chL h).length:Int))
         (Fr.need ((qyr h a).flatten.length<=1000000)
          (zsh h (za8 h (qv2.f (qyr h a,())).1) t ((chL h).getD a.toNat qc.dflt).2.1)))))))))))
theorem ycj:qa Tryz.prog 45 ⟨[.d ql,.d zd],[i64,i64],fun xs=>(quk xs).get,fun xs=>[(quk xs).ok]⟩:=
 qg yku (Λ:=qp) (fn:=Tryz.f45) (fr:=quk) (ps:=[.d ql,.d zd]) (rs:=[i64,i64]) (ql.dflt,zd.dflt,()) (by kernel_rfl) (fun c E _=>qd c 0) (fun x=>by kernel_rfl)
def qg6 (h:ql.den) (a:Nat):ql.den:=za8 h ((chL h).take a++(chL h).drop (a+1))
def qwj (h:ql.den) (t:zd.den) (a:Int):Int × Int:=
 if (vn h a).2.2.1=3/\(vn h a).2.2.2.2.2.1=1 then
  (if (ofF (qg6 h a.toNat) t).2=0 then
   (if (qb3 (ofF (qg6 h a.toNat) t).1 ((vn h a).2.1,h.2.2.1.1.2.1,())).2=0 then bpF (qb3 (ofF (qg6 h a.toNat) t).1 ((vn h a).2.1,h.2.2.1.1.2.1,())).1 1000
    else (0,(qb3 (ofF (qg6 h a.toNat) t).1 ((vn h a).2.1,h.2.2.1.1.2.1,())).2))
   else (0,(ofF (qg6 h a.toNat) t).2))
 else (0,0)
def qdd (h:ql.den) (t:zd.den):Int × Int:=
 if (ofF h t).2=0 then (match qk7 h with | none=>(0,0) | some a=>qwj h t a) else (0,(ofF h t).2)
def qy6:Ct:=⟨[.d ql,.d zd],[i64,i64],fun x=>((qdd x.1 x.2.1).1,(qdd x.1 x.2.1).2,()),fun x=>[jf x.1,jq x.2.1]⟩
theorem zfh (h:ql.den) (l:List Int):(k:Nat)->k<=l.length->∀ v,qjy h l k=some v->v ∈ l/\isT (vn h v)=true
 |0,_,_,hv=>by cases hv
 |k+1,hk,v,hv=>by
  unfold qjy at hv
  split at hv
  ·rename_i ht
   cases hv
   refine ⟨?_,ht⟩
   have:l.getD k 0=l[k]:=by rw [List.getD_eq_getElem?_getD,List.getElem?_eq_getElem (by omega)]; rfl
   rw [this]
   exact List.getElem_mem _
  ·exact zfh h l k (by omega) v hv
theorem zzd {h:ql.den} {a:Int} (ha:qk7 h=some a):(0<=a/\a < ((chL h).length:Int))/\isT (vn h a)=true:=by
 obtain ⟨h1,h2⟩:=zfh h (vu h) _ (Nat.le_refl _) a ha
 exact ⟨qss h1,h2⟩
theorem yc5 {h:ql.den} {a:Nat} (ha:a < (chL h).length) (hf:(chL h).length<=1000000):IntKind.i64.wrap ((a:Int)+1)=((a+1:Nat):Int)/\(qyr h a).flatten=(chL h).take a++(chL h).drop (a+1):=by
 have w:IntKind.i64.wrap ((a:Int)+1)=((a+1:Nat):Int):=by rw [qdf (by omega)]; omega
 refine ⟨w,?_⟩
 unfold qyr
 rw [w,Int.sub_zero,Int.toNat_natCast,Int.toNat_natCast,show (((chL h).length:Int) - ((a+1:Nat):Int)).toNat=(chL h).length - (a+1) by omega]
 show List.flatten [List.take a (chL h),List.take ((chL h).length - (a+1)) (List.drop (a+1) (chL h))]=_
 have e:List.take ((chL h).length - (a+1)) (List.drop (a+1) (chL h))=List.drop (a+1) (chL h):=List.take_of_length_le (by rw [List.length_drop]; exact Nat.le_refl _)
 rw [e]
 simp
theorem zog {h:ql.den} (hf:jf h) (a:Nat):jf (qg6 h a):=by
 have hsub:List.Sublist ((chL h).take a++(chL h).drop (a+1)) (chL h):=by
  conv=>rhs; rw [← List.take_append_drop a (chL h)]
  refine List.Sublist.append (List.Sublist.refl _) ?_
  rw [← List.drop_drop]
  exact List.drop_sublist 1 _
 refine ⟨Nat.le_trans (List.Sublist.length_le hsub) hf.1,hf.2.1,fun c hc=>hf.2.2 c (hsub.subset hc)⟩
theorem yff {b:Bool} {x y:Int}:(bif bif !b then true else x != 3 then true else y != 1)=false↔b=true/\x=3/\y=1:=by
 cases b with
 |false=>simp
 |true=>
  by_cases h1:x=3
  ·by_cases h2:y=1
   ·simp [h1,h2]
   ·simp [h1,h2]
  ·simp [h1]
theorem ym4 {h x:ql.den} {t:zd.den} {day:Int} (hx:jf x) (ht:jq t):(zsh h x t day).ok/\(zsh h x t day).get =
  (let r:Int × Int:=if (ofF x t).2=0 then (if (qb3 (ofF x t).1 (day,h.2.2.1.1.2.1,())).2=0 then bpF (qb3 (ofF x t).1 (day,h.2.2.1.1.2.1,())).1 1000 else (0,(qb3 (ofF x t).1 (day,h.2.2.1.1.2.1,())).2)) else (0,(ofF x t).2)
   (r.1,r.2,())):=by
 refine Fr.need_ hx (Fr.need_ ht ?_)
 by_cases h1:(ofF x t).2=0
 ·refine Fr.br_f (by show ((ofF x t).2 != 0)=false; simp [h1]) ?_
  simp only [h1,if_true]
  by_cases h2:(qb3 (ofF x t).1 (day,h.2.2.1.1.2.1,())).2=0
  ·refine Fr.br_f (by show ((qb3 (ofF x t).1 (day,h.2.2.1.1.2.1,())).2 != 0)=false; simp [h2]) ⟨trivial,?_⟩
   simp only [h2,if_true]
   rfl
  ·refine Fr.br_t (by show ((qb3 (ofF x t).1 (day,h.2.2.1.1.2.1,())).2 != 0)=true; simp [h2]) ⟨trivial,?_⟩
   simp only [h2,if_false]
   rfl
 ·refine Fr.br_t (by show ((ofF x t).2 != 0)=true; simp [h1]) ⟨trivial,?_⟩
  simp only [h1,if_false]
  rfl
theorem yii (h:ql.den) (t:zd.den) (hf:jf h) (ht:jq t):(quk (h,t,())).ok/\(quk (h,t,())).get=((qdd h t).1,(qdd h t).2,()):=by
 have hl:(chL h).length<=500000:=hf.1
 refine Fr.need_ hf (Fr.need_ ht ?_)
 unfold qdd
 by_cases h1:(ofF h t).2=0
 ·refine Fr.br_f (by show ((ofF h t).2 != 0)=false; simp [h1]) (Fr.need_ (show ((chL h).length:Int)<=1000000 by omega) ?_)
  rw [if_pos h1]
  cases ho:qk7 h with
  |none=>
   have e2:(qrs.f (h,())).2.1=false:=by show (qk7 h).isSome=false; rw [ho]; rfl
   rw [e2]
   exact Fr.need_ (fun hh=>by cases hh) (Fr.need_ (fun hh=>by cases hh) (Fr.br_t rfl ⟨trivial,rfl⟩))
  |some a=>
   obtain ⟨⟨a0,a1⟩,hT⟩:=zzd ho
   have e1:(qrs.f (h,())).1=a:=by show (qk7 h).getD 0=a; rw [ho]; rfl
   have e2:(qrs.f (h,())).2.1=true:=by show (qk7 h).isSome=true; rw [ho]; rfl
   rw [e1,e2]
   refine Fr.need_ (fun _=>⟨a0,a1⟩) (Fr.need_ (fun _=>⟨a0,a1⟩) ?_)
   show _/\_=((qwj h t a).1,(qwj h t a).2,())
   cases hb:(bif bif !true then true else ((chL h).getD a.toNat qc.dflt).2.2.1 != 3 then true else ((chL h).getD a.toNat qc.dflt).2.2.2.2.2.1 != 1) with
   |true=>
    refine Fr.br_t rfl ⟨trivial,?_⟩
    have hn:¬ ((vn h a).2.2.1=3/\(vn h a).2.2.2.2.2.1=1):=fun hh=>by
     have hb':(bif bif !true then true else (vn h a).2.2.1 != 3 then true else (vn h a).2.2.2.2.2.1 != 1)=true:=hb
     rw [yff.2 ⟨rfl,hh⟩] at hb'
     cases hb'
    unfold qwj
    rw [if_neg hn]
    rfl
   |false=>
    obtain ⟨_,k1,k2⟩:=yff.1 hb
    obtain ⟨n,rfl⟩:∃ n:Nat,a=n:=⟨a.toNat,by omega⟩
    obtain ⟨w,hfl⟩:=yc5 (h:=h) (a:=n) (by omega) (by omega)
    have hwf:=zog hf n
    have hlen:((qyr h n).flatten).length<=1000000:=by
     rw [hfl]
     have:(chL (qg6 h n)).length<=500000:=hwf.1
     exact Nat.le_trans this (by decide)
    have hnl:n < (chL h).length:=by omega
    have q1:0<=IntKind.i64.wrap ((n:Int)+1)/\IntKind.i64.wrap ((n:Int)+1)<=((chL h).length:Int):=by rw [w]; omega
    refine Fr.br_f rfl (Fr.need_ ⟨a0,a1⟩ (Fr.need_ ⟨Int.le_refl _,a0,Int.le_of_lt a1⟩ (Fr.need_ ⟨q1.1,q1.2,Int.le_refl _⟩ (Fr.need_ hlen ?_))))
    have hx:za8 h (qv2.f (qyr h n,())).1=qg6 h n:=by
     show za8 h (List.flatten (qyr h n))=za8 h _
     rw [hfl]
    rw [hx]
    have:=ym4 (h:=h) (x:=qg6 h n) (t:=t) (day:=(vn h n).2.1) hwf ht
    refine ⟨this.1,this.2.trans ?_⟩
    unfold qwj
    have hk:(vn h n).2.2.1=3/\(vn h n).2.2.2.2.2.1=1:=⟨k1,k2⟩
    rw [if_pos hk,Int.toNat_natCast]
 ·refine Fr.br_t (by show ((ofF h t).2 != 0)=true; simp [h1]) ⟨trivial,?_⟩
  rw [if_neg h1]
  rfl
theorem yci:qa Tryz.prog 45 qy6:=
 vt ycj _ _ (fun w F x vs hr hok=>by
  obtain ⟨h,t,_⟩:=x
  exact yii h t hok.1 hok.2)
theorem zeo (h:ql.den) (t:zd.den):0<=(qdd h t).1/\(qdd h t).1<=4000000000000000000:=by
 have z:(0:Int)<=0/\(0:Int)<=4000000000000000000:=by decide
 unfold qdd
 split
 ·split
  ·exact z
  ·unfold qwj
   split
   ·split
    ·split
     ·exact zdy _ _ _ (by decide)
     ·exact z
    ·exact z
   ·exact z
 ·exact z
theorem zdm (l:List qk.den) (d:Int):0<=(qad l d).1/\(qad l d).1<=4000000000000000000:=by
 unfold qad
 split
 ·exact zuw
 ·exact qvt _ _
theorem yc3 {a b:Int}:a > 4000000000000000000 - b↔4000000000000000000 < a+b:=by omega
def ymh (w k:Int):Int × Int:=if 4000000000000000000 < w+k then (0,5) else (w+k,0)
def qr1 (h:ql.den) (t:zd.den):Int × Int:=
 if (qdd h t).2=0 then (if (qad (ofF h t).1 292195).2=0 then ymh (qad (ofF h t).1 292195).1 (qdd h t).1 else (0,(qad (ofF h t).1 292195).2)) else (0,(qdd h t).2)
def ylu:Ct:=⟨[.d ql,.d zd],[i64,i64],fun x=>((qr1 x.1 x.2.1).1,(qr1 x.1 x.2.1).2,()),fun x=>[jf x.1,jq x.2.1]⟩
noncomputable def CDu:Cx:=cx [(45,qy6),(46,cOf),(47,qrt)] []
theorem ykn:CxOK Tryz.prog CDu:=zb qv ⟨yci,ztc,zqq,trivial⟩ trivial
def zjw (h:ql.den) (t:zd.den) (over:Bool):Fr (qi [i64,i64]):=
 let K:qi [i64,i64]:=qy6.f (h,t,()); let W:qi [i64,i64]:=qrt.f ((cOf.f (h,t,())).1,())
 Fr.need (jf h) (Fr.need (jq t) (Fr.br (K.2.1 != 0) (Fr.val (0,K.2.1,()))
  (Fr.need (jf h) (Fr.need (jq t) (Fr.br (W.2.1 != 0) (Fr.val (0,W.2.1,()))
   (Fr.br over (Fr.val (0,5,())) (Fr.val (IntKind.i64.wrap (W.1+K.1),0,()))))))))
def zsg (x:qm [.d ql,.d zd]):Fr (qi [i64,i64]):=
 zjw x.1 x.2.1 (decide ((qrt.f ((cOf.f (x.1,x.2.1,())).1,())).1 > IntKind.i64.wrap (4000000000000000000 - (qy6.f (x.1,x.2.1,())).1)))
theorem yhk:qa Tryz.prog 20 ⟨[.d ql,.d zd],[i64,i64],fun xs=>(zsg xs).get,fun xs=>[(zsg xs).ok]⟩:=
 qg ykn (Λ:=qp) (fn:=Tryz.f20) (fr:=zsg) (ps:=[.d ql,.d zd]) (rs:=[i64,i64]) (ql.dflt,zd.dflt,()) (by kernel_rfl) (fun c E _=>qd c 0) (fun x=>by kernel_rfl)
theorem yhj {h:ql.den} {t:zd.den} {over:Bool} (hf:jf h) (ht:jq t) (ho:over=decide (4000000000000000000 < (qad (ofF h t).1 292195).1+(qdd h t).1)) :
  (zjw h t over).ok/\(zjw h t over).get=((qr1 h t).1,(qr1 h t).2,()):=by
 have k:=zeo h t
 have u:=zdm (ofF h t).1 292195
 refine Fr.need_ hf (Fr.need_ ht ?_)
 unfold qr1
 by_cases h1:(qdd h t).2=0
 ·rw [if_pos h1]
  refine Fr.br_f (by show ((qdd h t).2 != 0)=false; simp [h1]) (Fr.need_ hf (Fr.need_ ht ?_))
  by_cases h2:(qad (ofF h t).1 292195).2=0
  ·rw [if_pos h2]
   refine Fr.br_f (by show ((qad (ofF h t).1 292195).2 != 0)=false; simp [h2]) ?_
   unfold ymh
   by_cases h3:4000000000000000000 < (qad (ofF h t).1 292195).1+(qdd h t).1
   ·rw [if_pos h3]
    exact Fr.br_t (ho.trans (decide_eq_true h3)) ⟨trivial,rfl⟩
   ·rw [if_neg h3]
    refine Fr.br_f (ho.trans (decide_eq_false h3)) ⟨trivial,?_⟩
    show (IntKind.i64.wrap ((qad (ofF h t).1 292195).1+(qdd h t).1),(0:Int),())=_
    rw [qdf (by omega)]
  ·rw [if_neg h2]
   exact Fr.br_t (by show ((qad (ofF h t).1 292195).2 != 0)=true; simp [h2]) ⟨trivial,rfl⟩
 ·rw [if_neg h1]
  exact Fr.br_t (by show ((qdd h t).2 != 0)=true; simp [h1]) ⟨trivial,rfl⟩
theorem ymi:qa Tryz.prog 20 ylu:=
 vt yhk _ _ (fun w F x vs hr hok=>by
  obtain ⟨h,t,_⟩:=x
  have k:=zeo h t
  have u:=zdm (ofF h t).1 292195
  refine yhj hok.1 hok.2 ?_
  show decide ((qad (ofF h t).1 292195).1 > IntKind.i64.wrap (4000000000000000000 - (qdd h t).1))=_
  rw [qdf (by omega)]
  exact decide_eq_decide.2 yc3)
theorem zvd {h:ql.den} {c:qc.den} (hf:jf h) (hl:(chL h).length < 2000) (hc:c.2.2.2.2.1.length<=1000000):jf (zqr h c):=by
 have e:chL (zqr h c)=([]++chL h)++[c]:=rfl
 refine ⟨?_,hf.2.1,fun c' hc'=>?_⟩
 ·rw [e,List.nil_append,List.length_append]
  show _+1<=500000
  omega
 ·rw [e,List.nil_append,List.mem_append] at hc'
  rcases hc' with hc' | hc'
  ·exact hf.2.2 c' hc'
  ·cases List.mem_singleton.1 hc'
   exact hc
theorem zp0 {h:ql.den} {c:qc.den} (hf:jf h):jf (qu6 h c).1:=by
 have z:jf h00:=⟨by decide,by decide,fun c hc=>by cases hc⟩
 unfold qu6
 split
 ·rename_i h1
  split
  ·exact z
  ·split
   ·exact z
   ·exact zvd hf (by omega) (qqw h1.1)
 ·exact z
end Go.Proofs.YtgieagiaagoogaaGreat
namespace Go.Proofs.YtgieagiaagoogaaGreat
open Go Go.Ab Go.RowKit Go.Proofs Go.Shelf
attribute [local go_sem] Oper.semAt_some
structure ChC where
 p:Nat->Int
 A:Option Addr
 l:Nat
 c:Nat
def qa9 (d:ChC):Array Value:=#[.int .i64 (d.p 0),.int .i64 (d.p 1),.int .i64 (d.p 2),.int .i64 (d.p 3),.int .i64 (d.p 4),.int .i64 (d.p 5),.int .i64 (d.p 6),.slice d.A d.l d.c,.int .i64 (d.p 7)]
def qt1 (d:ChC):Value:=.agg (qa9 d)
abbrev SlT:Type:=Option Addr × Nat × Nat
def ChC.set (d:ChC) (s:SlT):ChC:=⟨d.p,s.1,s.2.1,s.2.2⟩
theorem zvr {w:World} {F:Nat->Prop} {x:qc.den} {g:Nat->Value->Prop} (h:qs w F qc x g) :
  ∃ d:ChC,(∀ j u,(qa9 d)[j]? = some u->g j u)/\d.p 0=x.1/\qs w F (.sl qb) x.2.2.2.2.1 (fun _ u=>u = .slice d.A d.l d.c) /\
   ∀ (s:SlT) (Y:World) (F2:Nat->Prop),qs Y F2 (.sl qb) x.2.2.2.2.1 (fun _ u=>u = .slice s.1 s.2.1 s.2.2)->zt Y F2 qc x (qt1 (d.set s)):=by
 obtain ⟨h0,h1,h2,⟨b0,b1,b2,b3,_⟩,⟨A,c,h3,h3'⟩,h4,_⟩:=h
 refine ⟨⟨fun j=>match j with | 0=>x.1 | 1=>x.2.1 | 2=>x.2.2.1 | 3=>x.2.2.2.1.1 | 4=>x.2.2.2.1.2.1 | 5=>x.2.2.2.1.2.2.1 | 6=>x.2.2.2.1.2.2.2.1 | _=>x.2.2.2.2.2.1,A,x.2.2.2.2.1.length,c⟩,fun j u hj=>?_,rfl,⟨A,c,rfl,h3'⟩,fun s Y F2 hs=>⟨rfl,⟨fun _=>⟨_,rfl⟩,fun _=>rfl⟩,⟨rfl,h0.2⟩,⟨rfl,h1.2⟩,⟨rfl,h2.2⟩,⟨⟨rfl,b0.2⟩,⟨rfl,b1.2⟩,⟨rfl,b2.2⟩,⟨rfl,b3.2⟩,trivial⟩,?_,⟨rfl,h4.2⟩,trivial⟩⟩
 rotate_left
 ·obtain ⟨A2,c2,e,h⟩:=hs
  refine ⟨A2,c2,?_,h⟩
  show some (Value.slice s.1 s.2.1 s.2.2)=_
  rw [e]
 match j,hj with
 |0,hj=>cases hj; exact h0.1
 |1,hj=>cases hj; exact h1.1
 |2,hj=>cases hj; exact h2.1
 |3,hj=>cases hj; exact b0.1
 |4,hj=>cases hj; exact b1.1
 |5,hj=>cases hj; exact b2.1
 |6,hj=>cases hj; exact b3.1
 |7,hj=>cases hj; exact h3
 |8,hj=>cases hj; exact h4.1
 |j+9,hj=>simp [qa9] at hj
def qgr (c:Nat->ChC) (day:Int) (k:Nat):List Nat:=(List.range k).filter fun i=>decide ((c i).p 0<=day)
theorem zvy {c:Nat->ChC} {day:Int} {k:Nat} (h:(c k).p 0<=day):qgr c day (k+1)=qgr c day k++[k]:=by simp [qgr,List.range_succ,List.filter_append,h]
theorem ya1 {c:Nat->ChC} {day:Int} {k:Nat} (h:¬ (c k).p 0<=day):qgr c day (k+1)=qgr c day k:=by simp [qgr,List.range_succ,List.filter_append]; omega
theorem zin (c:Nat->ChC) (day:Int) (k:Nat):(qgr c day k).length<=k:=by
 have:=List.length_filter_le (fun i=>decide ((c i).p 0<=day)) (List.range k)
 rw [List.length_range] at this
 exact this
def qps (c:Nat->ChC) {len:Nat} (x:Fin len × SlT):Value:=qt1 ((c x.1.1).set x.2)
set_option maxRecDepth 100000 in
set_option maxHeartbeats 4000000 in
theorem yeu (n:Nat) (hn:1<=n) (l Bh oh Bd od n₀ b off len cap:Nat) (day:Int) (c:Nat->ChC) (hreach:len<=1000000) (A:Option Addr) (hA:0 < len->A=some ⟨b,off,none⟩/\b < n₀) (E:Fin len × SlT->World->World->Prop) (J:List (Fin len × SlT)->World->Prop)
  (hJ:∀ pre X Y,J pre X->Below X.heap.size X Y->J pre Y)
  (W:World) (hn₀:n₀<=W.heap.size)
  (hclone:∀ (k:Fin len) X,KpS n₀ Bh Bd W X->Calls Tryz.prog 70 #[.slice (c k.1).A (c k.1).l (c k.1).c] X fun e w'=>∃ s:SlT,e = .returned (.slice s.1 s.2.1 s.2.2)/\Below X.heap.size X w' /\
   ∀ (Bx:Nat) (X0 Y:World),n₀<=Bx->Bx < X.heap.size->X0.heap.size<=X.heap.size->(∀ q,q ≠ Bx->Y.heap[q]? = w'.heap[q]?)->E (k,s) X0 Y)
  (hY:∀ pre (x:Fin len × SlT) X0 X,J pre X0->Below X0.heap.size X0 X->E x X0 X->pre.length < len->YieldAt Fence.wide (n - 1) Tryz.prog l #[qps c x] X fun e W'=>e = .returned (.bool true)/\J (pre++[x]) W'/\KpS n₀ Bh Bd X W')
  (hBh:W.cell? ⟨Bh,oh+9,none⟩=some (.slice A len cap)) (hBd:W.cell? ⟨Bd,od,none⟩=some (.int .i64 day))
  (hc:∀ k j u,k < len->(qa9 (c k))[j]? = some u->W.cell? ⟨b,off+(k * 9+j),none⟩=some u) (h0:J [] W) :
  CallsIn Fence.wide n Tryz.prog 177 #[.func (.yield l) #[] #[],.pointer (some ⟨Bh,oh,none⟩),.pointer (some ⟨Bd,od,none⟩)] W fun e W'=>(∃ v,e = .returned v) /\
   ∃ xs:List (Fin len × SlT),xs.map (fun x=>x.1.1)=qgr c day len/\J xs W':=by
 have hro:Fence.wide.round=none:=rfl
 refine callsIn_of_wp Tryz.func177 rfl trivial ?_ hro
 simp only [Tryz.ntmps177,List.size_toArray,List.length_cons,List.length_nil,Nat.reduceAdd,Nat.reduceSub,Array.replicate_succ,Array.replicate_zero,List.push_toArray,List.append_toArray,List.nil_append,List.cons_append]
 have hl1:Bh < W.heap.size:=by
  obtain ⟨_,_,_,h⟩:=qru hBh
  exact (Array.getElem?_eq_some_iff.1 h).1
 have hl2:Bd < W.heap.size:=by
  obtain ⟨_,_,_,h⟩:=qru hBd
  exact (Array.getElem?_eq_some_iff.1 h).1
 gi_wp2
 gi_loopw [9] (fun i wr=>∃ (k:Nat) (pre:List (Fin len × SlT)),k<=len/\i = .int .i64 (k:Int)/\pre.map (fun x=>x.1.1)=qgr c day k/\J pre wr/\KpS n₀ Bh Bd W wr)
  (fun i _=>((len:Int) - intOf i).toNat)
 case atStart=>exact ⟨0,[],Nat.zero_le _,by simp,rfl,h0,KpS.refl _ _ _ _⟩
 case round=>
  obtain ⟨k,pre,hk,rfl,hpre,hJs,hnx⟩:=hrel
  have e0:wr.cell? ⟨Bd,od,none⟩=some (.int .i64 day):=(World.cell?_of_block hnx.2.2).trans hBd
  by_cases hlt:k < len
  ·obtain ⟨rfl,hb⟩:=hA (by omega)
   have hlen:pre.length < len:=by
    have:=congrArg List.length hpre
    have h2:=zin c day k
    rw [List.length_map] at this
    omega
   have hcx:∀ j u,(qa9 (c k))[j]? = some u->wr.cell? ⟨b,off+k * 9+j,none⟩=some u:=fun j u hj=>by
    rw [Nat.add_assoc]
    exact (hnx.1.cell (p:=⟨b,off+(k * 9+j),none⟩) hb).trans (hc _ j u hlt hj)
   have x0:=hcx 0 (.int .i64 ((c k).p 0)) rfl
   have x1:=hcx 1 (.int .i64 ((c k).p 1)) rfl
   have x2:=hcx 2 (.int .i64 ((c k).p 2)) rfl
   have x3:=hcx 3 (.int .i64 ((c k).p 3)) rfl
   have x4:=hcx 4 (.int .i64 ((c k).p 4)) rfl
   have x5:=hcx 5 (.int .i64 ((c k).p 5)) rfl
   have x6:=hcx 6 (.int .i64 ((c k).p 6)) rfl
   have x7:=hcx 7 (.slice (c k).A (c k).l (c k).c) rfl
   have x8:=hcx 8 (.int .i64 ((c k).p 7)) rfl
   rw [Nat.add_zero] at x0
   have hBdl:Bd < wr.heap.size:=Nat.lt_of_lt_of_le hl2 hnx.1.size
   have hBhl:Bh < wr.heap.size:=Nat.lt_of_lt_of_le hl1 hnx.1.size
   have hBb:Below wr.heap.size wr (wr.alloc (.cells (qa9 (c k)) 38)):=(Below.refl _ wr).alloc (Nat.le_refl _) _
   have e1:=(hBb.cell (p:=⟨Bd,od,none⟩) hBdl).trans e0
   have hKb:KpS n₀ Bh Bd W (wr.alloc (.cells (qa9 (c k)) 38)):=hnx.trans (KpS.below hBb (Nat.le_trans hn₀ hnx.1.size) hBhl hBdl)
   unfold qa9 at e1
   have HK:=Lib.hid hKb
   have HB:=Lib.hid hBb
   clear hcx hc hBh hBd hKb hBb
   gi_wp2
   ·have hno':day < (c k).p 0:=by assumption
    have hno:¬ (c k).p 0<=day:=by omega
    exact ⟨⟨k+1,pre,by omega,by simp,by rw [ya1 hno,hpre],hJ _ _ _ hJs HB.out,HK.out⟩,by simp [intOf]; omega⟩
   ·have hyes:(c k).p 0<=day:=by assumption
    refine ⟨trivial,?_⟩
    refine (callsIn_wide.2 (hclone ⟨k,hlt⟩ _ HK.out)).mono ?_
    rintro e w1 ⟨s,rfl,hb1,hE⟩
    have hszb:wr.heap.size < (wr.alloc (.cells (qa9 (c k)) 38)).heap.size:=by simp
    have z4:=(hb1.block wr.heap.size hszb).trans (World.alloc_heap_new wr (.cells (qa9 (c k)) 38))
    unfold qa9 at z4
    have u0:=qh z4 0
    have u1:=qh z4 1
    have u2:=qh z4 2
    have u3:=qh z4 3
    have u4:=qh z4 4
    have u5:=qh z4 5
    have u6:=qh z4 6
    have u7:=qh z4 7
    have u8:=qh z4 8
    simp at u0 u1 u2 u3 u4 u5 u6 u7 u8
    have ff:∀ j,w1.frozen? ⟨wr.heap.size,j,none⟩=false:=fun j=>by simp [World.frozen?,z4]
    have f7:=ff 7
    have hW3:Below wr.heap.size wr (w1.setCell ⟨wr.heap.size,7,none⟩ (.slice s.1 s.2.1 s.2.2)):=(HB.out.trans (hb1.mono (Nat.le_of_lt hszb))).setCell (p:=⟨wr.heap.size,7,none⟩) (Nat.le_refl _) _
    have hk3:KpS n₀ Bh Bd wr (w1.setCell ⟨wr.heap.size,7,none⟩ (.slice s.1 s.2.1 s.2.2)):=KpS.below hW3 (Nat.le_trans hn₀ hnx.1.size) hBhl hBdl
    have hE3:=hE wr.heap.size wr (w1.setCell ⟨wr.heap.size,7,none⟩ (.slice s.1 s.2.1 s.2.2)) (Nat.le_trans hn₀ hnx.1.size) hszb (Nat.le_of_lt hszb) (fun q hq=>heap_setCell_other _ _ q _ hq)
    obtain ⟨fn,tmps,assign,body,hy,hR⟩:=hY pre (⟨k,hlt⟩,s) wr _ hJs hW3 hE3 hlen
    dsimp only [qps,qt1,qa9,ChC.set] at hy
    clear hY hclone hJ
    gi_wp2
    refine hR.mono ?_
    rintro e W4 ⟨rfl,hJ4,hk4⟩
    gi_wp2
    go_roundw
    case rel=>exact ⟨k+1,pre++[(⟨k,hlt⟩,s)],by omega,by simp,by rw [zvy hyes,List.map_append,hpre]; rfl,hJ4,hnx.trans (hk3.trans hk4)⟩
    case measure=>simp [intOf]; omega
  ·obtain rfl:k=len:=by omega
   gi_wp2
   go_end0
   exact ⟨⟨_,rfl⟩,_,hpre,hJs⟩
end Go.Proofs.YtgieagiaagoogaaGreat
namespace Go.Proofs.YtgieagiaagoogaaGreat
open Go Go.Ab Go.RowKit Go.Proofs Go.Shelf Go.Maps
attribute [local go_sem] Oper.semAt_some
def qgq (c:Nat->ChC) {len:Nat}:List (Fin len × SlT)->List Value
 |[]=>[]
 |x :: l=>(qa9 ((c x.1.1).set x.2)).toList++qgq c l
theorem qt4 (c:Nat->ChC) {len:Nat}:(a b:List (Fin len × SlT))->qgq c (a++b)=qgq c a++qgq c b
 |[],_=>rfl
 |x :: a,b=>by simp [qgq,qt4 c a b]
theorem zds (c:Nat->ChC) {len:Nat}:(a:List (Fin len × SlT))->(qgq c a).length=a.length * 9
 |[]=>rfl
 |x :: a=>by simp [qgq,qa9,zds c a]; omega
def qv0 (c:Nat->ChC) (F:Nat->Prop) (y:Nat->qc.den) {len:Nat} (x:Fin len × SlT) (X Y:World):Prop:=
 ∃ F',zt Y F' qc (y x.1.1) (qps c x)/\∀ q,F' q->(F q ∨ X.heap.size<=q)/\∃ arr ty p,Y.heap[q]? = some (.cells arr ty p)
def zqk (w:World) (c:Nat->ChC) (F:Nat->Prop) (y:Nat->qc.den) {len:Nat} (els pre:List (Fin len × SlT)) (W:World) (v:Value) (F':Nat->Prop):Prop:=
 W.heap[w.heap.size]? = some (.cells #[v] 52 (0,0))/\W.ownsRow w.heap.size 38 9 v pre.length (qgq c pre)/\yp W F' qc (els.map fun x=>y x.1.1) (qgq c els) /\
  ∀ q,F' q->(F q ∨ w.heap.size<=q)/\v.ownBlock ≠ some q/\q ≠ w.heap.size/\∃ arr ty p,W.heap[q]? = some (.cells arr ty p)
structure CoI (w:World) (c:Nat->ChC) (F:Nat->Prop) (y:Nat->qc.den) {len:Nat} (els pre:List (Fin len × SlT)) (W:World):Prop where
 row:∃ v F',zqk w c F y els pre W v F'
 bel:Below w.heap.size w W
theorem qin {W:World} {base:Nat} {e:TypeId} {size:Nat} {v:Value} {k:Nat} {xs:List Value} (h:W.ownsRow base e size v k xs) {j:Nat} (hj:v.ownBlock=some j):base<=j/\∃ cur,W.heap[j]? = some (.cells cur e (0,0)):=by
 rcases h.2 with ⟨rfl,_⟩ | ⟨g,cap,cur,rfl,hb,hgb,_⟩
 ·simp [Value.ownBlock] at hj
 ·have:g=j:=by simpa [Value.ownBlock] using hj
  subst this
  exact ⟨hb,_,hgb⟩
theorem zx5 {W:World} {base:Nat} {e:TypeId} {size:Nat} {v:Value} {k:Nat} {xs:List Value} (h:W.ownsRow base e size v k xs) {j:Nat} {o:Obj} (hj:W.heap[j]? = some o) (hno:∀ cur,o ≠ .cells cur e (0,0)):v.ownBlock=none ∨ v.ownBlock ≠ some j:=by
 by_cases he:v.ownBlock=some j
 ·obtain ⟨_,cur,hc⟩:=qin h he
  rw [hj] at hc
  cases hc
  exact absurd rfl (hno cur)
 ·exact .inr he
theorem zrl {w:World} {c:Nat->ChC} {F:Nat->Prop} {y:Nat->qc.den} {len:Nat} {els pre:List (Fin len × SlT)} {W W':World} {v:Value} {F':Nat->Prop} {row:Option Nat} (h:zqk w c F y els pre W v F') (hg:W.grownBy W' row)
  (hr:∀ r,row=some r->∃ o:Obj,W.heap[r]? = some o/\o.isCells=false):zqk w c F y els pre W' v F':=by
 obtain ⟨h1,h2,h3,h4⟩:=h
 have hcells:∀ q arr ty p,W.heap[q]? = some (Obj.cells arr ty p)->W'.heap[q]? = W.heap[q]? := fun q arr ty p hq=>hg.block q (Array.getElem?_eq_some_iff.1 hq).1 (fun e=>by
  obtain ⟨o,ho,hc⟩:=hr q e.symm
  rw [hq] at ho
  cases ho
  cases hc)
 refine ⟨(hcells _ _ _ _ h1).trans h1,h2.kept hg ?_,h3.mono (fun _ h=>h) (fun q hq=>?_),fun q hq=>?_⟩
 ·by_cases he:v.ownBlock=row
  ·cases hrow:row with
   |none=>exact .inl (he.trans hrow)
   |some r=>
    obtain ⟨o,ho,hc⟩:=hr r hrow
    obtain ⟨_,cur,hcu⟩:=qin h2 (he.trans hrow)
    rw [ho] at hcu
    cases hcu
    cases hc
  ·exact .inr he
 ·obtain ⟨_,_,_,arr,ty,p,hc⟩:=h4 q hq
  exact hcells _ _ _ _ hc
 ·obtain ⟨a1,a2,a3,arr,ty,p,hc⟩:=h4 q hq
  exact ⟨a1,a2,a3,arr,ty,p,(hcells _ _ _ _ hc).trans hc⟩
theorem zb7 {w:World} {c:Nat->ChC} {F:Nat->Prop} {y:Nat->qc.den} {len:Nat} {B:Nat} (hB:w.heap.size<=B) (els pre:List (Fin len × SlT)) {X Y:World} {row:Option Nat} (h:CoI w c F y els pre X) (hg:X.grownBy Y row) (hr:∀ r,row=some r->B<=r/\∃ o:Obj,X.heap[r]? = some o/\o.isCells=false):CoI w c F y els pre Y:=by
 obtain ⟨v,F',hrow⟩:=h.row
 exact ⟨⟨v,F',zrl hrow hg fun r e=>(hr r e).2⟩,h.bel.grown hg h.bel.size (fun k e=>Nat.le_trans hB (hr k e).1)⟩
theorem zyl {W:World} {F:Nat->Prop} {x:qc.den} {d:ChC} (h:zt W F qc x (qt1 d)):yp W F qc [x] (qa9 d).toList:=fun i z hz=>by
 cases i with
 |zero=>
  simp only [List.getElem?_cons_zero,Option.some.injEq] at hz
  subst hz
  refine h.2.2.mono (fun _ h=>h) (fun _ _=>rfl) fun j u _ hu=>?_
  have:(qa9 d)[j]? = some u:=hu
  simpa using this
 |succ i=>simp at hz
theorem zrk {w:World} {c:Nat->ChC} {F:Nat->Prop} {y:Nat->qc.den} {len:Nat} {pre:List (Fin len × SlT)} {x:Fin len × SlT} {X Y:World} (h:CoI w c F y pre pre X) (hb:Below X.heap.size X Y) (hF:∀ q,F q->q < w.heap.size) (hE:qv0 c F y x X Y):CoI w c F y (pre++[x]) pre Y:=by
 obtain ⟨v,F',h1,h2,h3,h4⟩:=h.row
 obtain ⟨F2,hr,hF2⟩:=hE
 have hs:w.heap.size < X.heap.size:=(Array.getElem?_eq_some_iff.1 h1).1
 have hblk:∀ q o,X.heap[q]? = some o->Y.heap[q]? = some o:=fun q o hq=>(hb.block q (Array.getElem?_eq_some_iff.1 hq).1).trans hq
 refine ⟨⟨v,fun q=>F' q ∨ F2 q,hblk _ _ h1,h2.kept (row:=none) ⟨hb.os,hb.tape,hb.output,hb.size,fun k hk _=>hb.block k hk⟩ ?_,?_,fun q hq=>?_⟩,h.bel.trans (hb.mono (Nat.le_of_lt hs))⟩
 ·cases v.ownBlock with
  |none=>exact .inl rfl
  |some g=>exact .inr (by simp)
 ·rw [List.map_append,qt4]
  refine yp.append (h3.mono (fun _ h=>.inl h) fun q hq=>?_) ?_ ?_
  ·obtain ⟨_,_,_,arr,ty,p,hc⟩:=h4 q hq
   exact (hblk _ _ hc).trans hc.symm
  ·rw [zds,List.length_map]
   rfl
  ·have:=zyl hr
   simp only [qgq,List.append_nil,List.map_cons,List.map_nil]
   exact this.mono (fun _ h=>.inr h) (fun _ _=>rfl)
 ·rcases hq with hq | hq
  ·obtain ⟨a1,a2,a3,arr,ty,p,hc⟩:=h4 q hq
   exact ⟨a1,a2,a3,arr,ty,p,hblk _ _ hc⟩
  ·obtain ⟨a1,arr,ty,p,hc⟩:=hF2 q hq
   refine ⟨a1.elim .inl (fun h=>.inr (by omega)),fun e=>?_,fun e=>?_,arr,ty,p,hc⟩
   ·obtain ⟨hge,cur,hcu⟩:=qin h2 e
    have hlt:=(Array.getElem?_eq_some_iff.1 hcu).1
    rcases a1 with a1 | a1
    ·have:=hF q a1
     omega
    ·omega
   ·rcases a1 with a1 | a1
    ·have:=hF q a1
     omega
    ·omega
def CoA (w:World) (c:Nat->ChC) (F:Nat->Prop) (y:Nat->qc.den) {len:Nat} (a:Fin len × SlT->Nat->Act) (pre:List (Fin len × SlT)) (x:Fin len × SlT) (a':Act) (W:World):Prop:=
 CoI w c F y (pre++[x]) pre W/\∃ Bx,w.heap.size < Bx/\W.heap[Bx]? = some (.cells (qa9 ((c x.1.1).set x.2)) 38 (0,0))/\a'=a x Bx
theorem yha {w:World} {c:Nat->ChC} {F:Nat->Prop} {y:Nat->qc.den} {len:Nat} {a:Fin len × SlT->Nat->Act} {B:Nat} (hB:w.heap.size<=B) (pre:List (Fin len × SlT)) (x:Fin len × SlT) (a':Act):OwnFrom B (fun (_:Unit) W=>CoA w c F y a pre x a' W):=fun _ X Y row hs hg hr=>by
 obtain ⟨h0,Bx,h1,h2,h3⟩:=hs
 exact ⟨zb7 hB _ _ h0 hg hr,Bx,h1,qd9 h2 hg hr,h3⟩
set_option maxRecDepth 100000 in
theorem yg9:(Tryz.prog.info? 38).map (fun i=>(i.zero,i.size,i.bytes))=some (some (.agg #[.int .i64 0,.int .i64 0,.int .i64 0,.int .i64 0,.int .i64 0,.int .i64 0,.int .i64 0,.slice none 0 0,.int .i64 0]),9,88):=by kernel_rfl
theorem qpr {W:World} {B:Nat} {v:Value} {t:TypeId} (h:W.heap[B]? = some (.cells #[v] t (0,0))):W.cell? ⟨B,0,none⟩=some v/\W.frozen? ⟨B,0,none⟩=false:=by
 constructor<;>simp [World.cell?,World.frozen?,h]
theorem zxr (W:World) (arr:Array Value) (t:TypeId) (j:Nat) (u:Value) (h:arr.toList[j]? = some u):(W.alloc (.cells arr t)).cell? ((⟨W.heap.size,0,none⟩:Addr).add j)=some u:=by
 have hb:=qh (World.alloc_heap_new W (.cells arr t)) j
 have he:(⟨W.heap.size,0,none⟩:Addr).add j=⟨W.heap.size,j,none⟩:=by unfold Addr.add; split<;>simp_all
 rw [he,hb]
 simpa using h
theorem zsw {X Y:World} {row:Option Nat} (hg:X.grownBy Y row) (h:∀ r,row=some r->∃ arr t p,X.heap[r]? = some (Obj.cells arr t p)):KeepsOthers X Y:=
 ⟨hg.size,fun k o hk ho=>(hg.block k (Array.getElem?_eq_some_iff.1 hk).1 (fun e=>by
  obtain ⟨arr,t,p,hc⟩:=h k e.symm
  rw [hk] at hc
  cases hc
  cases ho)).trans hk⟩
theorem qiq {W:World} {B:Nat} {v:Value} {t:TypeId} (v':Value) (h:W.heap[B]? = some (.cells #[v] t (0,0))):(W.setCell ⟨B,0,none⟩ v').heap[B]? = some (.cells #[v'] t (0,0)):=heap_setCell_same W B 0 _ t v' h
theorem yc4 {W:World} {F:Nat->Prop} {base:Nat} {e:TypeId} {t:Ty} {v:Value} {l:List t.den} {xs:List Value} (h:W.ownsRow base e t.size v l.length xs) (hr:yp W F t l xs):qs W (fun q=>F q ∨ v.ownBlock=some q) (.sl t) l (fun _ u=>u=v):=by
 rcases h.2 with ⟨rfl,hn⟩ | ⟨g,cap,cur,rfl,hb,hgb,h1,h2,h3,h4⟩
 ·exact ⟨none,0,by rw [hn],by omega,Nat.zero_le _,fun i x hx=>by have:=(List.getElem?_eq_some_iff.1 hx).1; omega⟩
 ·refine ⟨some ⟨g,0,none⟩,cap,rfl,h1,h2,fun i x hx=>⟨⟨g,0,none⟩,rfl,.inr rfl,(hr i x hx).mono (fun _ h=>.inl h) (fun _ _=>rfl) fun j u _ hu=>?_⟩⟩
  have he:(⟨g,0,none⟩:Addr).add (i * t.size+j)=⟨g,i * t.size+j,none⟩:=by unfold Addr.add; split<;>simp_all
  show W.cell? _=some u
  rw [he,qh hgb]
  have hu':xs[i * t.size+j]? = some u:=hu
  rw [← h4,List.getElem?_take] at hu'
  split at hu'
  ·simpa using hu'
  ·cases hu'
set_option maxRecDepth 100000 in
set_option maxHeartbeats 4000000 in
theorem zvf (n : Nat) (hn : 2 <= n) (c : Nat -> ChC) (F : Nat -> Prop) (y : Nat -> qc.den) (len : Nat) (hlen : len <= 1000000) (gf : Nat) (lb : Array Value) (eg : ∀ args w, (callFunc gf args).run Tryz.prog w = .ok (.enter gf args) w) (w : World) (hF : ∀ q, F q -> q < w.heap.size) (S : List (Fin len × SlT) -> Prop)
    (hseq : ∀ w0, Below w.heap.size w w0 -> zqp Fence.wide (n - 1) Tryz.prog gf lb (fun x : Fin len × SlT => #[qps c x]) (qv0 c F y) (Below w.heap.size) S len w0) :
    CallsIn Fence.wide n Tryz.prog 176 #[.slice none 0 0, .func (.func gf) #[] lb] w fun e w' => ∃ v xs F', e = .returned v /\ S xs /\ Below w.heap.size w w' /\
      qs w' F' (.sl qc) (xs.map fun x => y x.1.1) (fun _ u => u = v) /\ ∀ q, F' q -> (F q ∨ w.heap.size <= q) /\ q < w'.heap.size := by
  refine callsIn_of_wp_marks Tryz.func176 rfl trivial ?_ rfl
  simp only [Tryz.ntmps176, List.size_toArray, List.length_cons, List.length_nil, Nat.reduceAdd, Nat.reduceSub, Array.replicate_succ, Array.replicate_zero, List.push_toArray, List.append_toArray, List.nil_append, List.cons_append]
  gi_wp2
  have hbel : Below w.heap.size w (w.alloc (.cells #[.slice none 0 0] 52)) := (Below.refl _ w).alloc (Nat.le_refl _) _
  have hbx := World.alloc_heap_new w (.cells #[.slice none 0 0] 52)
  have hsz : (w.alloc (.cells #[.slice none 0 0] 52)).heap.size = w.heap.size + 1 := by simp
  obtain ⟨W0, hW0⟩ : ∃ W0, w.alloc (.cells #[.slice none 0 0] 52) = W0 := ⟨_, rfl⟩
  rw [hW0] at hbel hbx hsz ⊢
  clear hW0
  have hI0 : CoI w c F y ([] : List (Fin len × SlT)) [] W0 := ⟨⟨_, fun _ => False, hbx, ⟨rfl, .inl ⟨rfl, rfl⟩⟩, fun i z hz => by simp at hz, fun q hq => hq.elim⟩, hbel⟩
  refine zoh rfl (by omega) (gf := gf) (lb := lb) rfl trivial eg (α := Fin len × SlT) (encs := fun x => #[qps c x]) (E := qv0 c F y) (Kp := Below w.heap.size) (S := S) (N := len) (hseq W0 hbel)
    (fun h k => h.trans k) (fun W l o o' hl ho hoc => ⟨rfl, rfl, rfl, by simp, fun k hk => World.putObj_heap_other (by omega)⟩) (fun _ => rfl)
    (fun pre W => CoI w c F y pre pre W) (fun pre X Y row h hg hr => zb7 (B := W0.heap.size) hbel.size _ _ h hg hr) hI0
    (fun pre x a' W => CoA w c F y (fun x Bx => { tmps := #[.slice none 0 0, .func (.func gf) #[] lb, .pointer (some ⟨w.heap.size, 0, none⟩), undef, .slice none 0 0, .pointer (some ⟨Bx, 0, none⟩), .func (.func gf) #[] lb, qps c x, undef, undef, undef, undef, undef], defers := [] }) pre x a' W)
    (fun pre x a' => yha hbel.size pre x a') ?assign ?body ?done
  case assign =>
    rintro l pre x X W K hi hb hE hK
    have hi2 := zrk hi hb hF hE
    unfold qps qt1 qa9
    gi_wp2
    obtain ⟨v, F', r1, _⟩ := hi2.row
    have hlt : w.heap.size < W.heap.size := (Array.getElem?_eq_some_iff.1 r1).1
    exact hK _ _ ((KeepsOthers.alloc _ _).from _) ((Below.refl _ W).alloc (Nat.le_of_lt hlt) _)
      ⟨zb7 (B := W0.heap.size) hbel.size _ _ hi2 (World.grownBy_alloc W _ none) (fun r e => nomatch e), W.heap.size, hlt, World.alloc_heap_new W _, rfl⟩
  case body =>
    rintro l pre x a' W ⟨hi, Bx, hBx, bX, rfl⟩ hlt
    obtain ⟨v, F', r1, r2, r3, r4⟩ := hi.row
    obtain ⟨i0, hi0, hz0, hz1, hz2⟩ := info_parts yg9
    have bX' := bX
    unfold qa9 at bX'
    have y0 := qh bX' 0
    have y1 := qh bX' 1
    have y2 := qh bX' 2
    have y3 := qh bX' 3
    have y4 := qh bX' 4
    have y5 := qh bX' 5
    have y6 := qh bX' 6
    have y7 := qh bX' 7
    have y8 := qh bX' 8
    simp at y0 y1 y2 y3 y4 y5 y6 y7 y8
    obtain ⟨hc1, hf1⟩ := qpr r1
    have hlt0 : w.heap.size < W.heap.size := (Array.getElem?_eq_some_iff.1 r1).1
    have hnew := zxr W (qa9 ((c x.1.1).set x.2)) 38
    have HR := Lib.hid r3
    have HF := Lib.hid r4
    have hbelI := hi.bel
    have hv3f : ∀ (arr : Array Value) (w3 : World), (W.alloc (.cells arr 38)).grownBy w3 v.ownBlock -> w3.heap[w.heap.size]? = some (.cells #[v] 52 (0, 0)) := fun arr w3 hg =>
      (hg.block _ (by simp; omega) (fun e => (zx5 r2 r1 (fun cur e => by cases e)).elim (fun h => by rw [h] at e; cases e) (fun h => h e.symm))).trans ((Below.heap_alloc _ _ _ hlt0).trans r1)
    unfold qa9 at hnew
    clear r3 r4 bX bX' hseq hi
    gi_wp2_with (first
      | (gi_at_builtin; refine wpListIn_append_own_at _ rfl _ _ 52 rfl w.heap.size 38 i0 _ 9 88 Tryz.underlying52 hi0 hz0 hz1 hz2 rfl (by decide) _ _ _ rfl (r2.alloc _) ⟨W.heap.size, 0, none⟩ 1 1 _ rfl rfl hnew (by simp [Value.oneCell']) (by simp only [maxLen]; omega) (by omega) (by simp; omega) ?_; intro v' w3 hown' hg3 hnil3 hat3
         have hv3 : w3.heap[w.heap.size]? = some (.cells #[v] 52 (0, 0)) := hv3f _ _ hg3
         obtain ⟨hc3, hf3⟩ := qpr hv3
         obtain ⟨g', cap', cur', rfl, hbase', hgb', hr1, hr2, hr3, hr4⟩ : ∃ g' cap' cur', v' = .slice (some ⟨g', 0, none⟩) (pre.length + 1) cap' /\ w.heap.size <= g' /\ w3.heap[g']? = some (.cells cur' 38 (0, 0)) /\ pre.length + 1 <= cap' /\ cap' <= maxLen /\ cur'.size = cap' * 9 /\ cur'.toList.take ((pre.length + 1) * 9) = qgq c pre ++ _ := by
           rcases hown'.2 with ⟨_, h0⟩ | h'
           · exact absurd h0 (by omega)
           · exact h'
         go_frame)
      | gi_in)
    have hownX := r2.alloc (.cells (qa9 ((c x.1.1).set x.2)) 38)
    have hgX : (W.alloc (.cells (qa9 ((c x.1.1).set x.2)) 38)).grownBy w3 v.ownBlock := hg3
    have hg4 := grownBy_setCell' w3 w.heap.size (.slice (some ⟨g', 0, none⟩) (pre.length + 1) cap')
    have hb3 : Below w.heap.size W w3 := ((Below.refl _ W).alloc (Nat.le_of_lt hlt0) _).grown hgX (by simp; omega) (fun k e => (qin hownX e).1)
    have hb4 := hb3.setCell (p := ⟨w.heap.size, 0, none⟩) (Nat.le_refl _) (.slice (some ⟨g', 0, none⟩) (pre.length + 1) cap')
    have hsame : ∀ q, F' q -> (w3.setCell ⟨w.heap.size, 0, none⟩ (.slice (some ⟨g', 0, none⟩) (pre.length + 1) cap')).heap[q]? = W.heap[q]? := fun q hq => by
      obtain ⟨_, a2, a3, arr, ty, p, hc⟩ := HF.out q hq
      have hq2 := (Array.getElem?_eq_some_iff.1 hc).1
      exact (heap_setCell_other _ _ q _ a3).trans ((hgX.block q (by simp; omega) (fun e => a2 e.symm)).trans (Below.heap_alloc _ _ _ hq2))
    refine ⟨rfl, (((KeepsOthers.alloc W _).trans (zsw hgX fun r e => ?_)).trans (KeepsOthers.setCell w3 _ _)).from _, hb4, ⟨_, F', qiq _ hv3, ?_, HR.out.mono (fun _ h => h) hsame, fun q hq => ?_⟩, hbelI.trans hb4⟩
    · obtain ⟨_, cur, hc⟩ := qin hownX e
      exact ⟨_, _, _, hc⟩
    · have h5 := hown'.kept hg4 (zx5 hown' hv3 (fun cur e => by cases e))
      simpa [qt4, qgq, qa9] using h5
    · obtain ⟨a1, a2, a3, arr, ty, p, hc⟩ := HF.out q hq
      refine ⟨a1, fun e => ?_, a3, arr, ty, p, (hsame q hq).trans hc⟩
      have hq2 := (Array.getElem?_eq_some_iff.1 hc).1
      rcases hat3 with h | h
      · exact a2 (h.symm.trans e)
      · rw [h] at e
        simp at e
        omega
  case done =>
    rintro D zs W hD hzs hi hK
    obtain ⟨v, F', r1, r2, r3, r4⟩ := hi.row
    obtain ⟨hc1, hf1⟩ := qpr r1
    have HR := Lib.hid r3
    have HF := Lib.hid r4
    clear r3 r4 hseq
    gi_wp2
    refine ⟨by simp, .inl ⟨_, _, rfl, run_takeDeferred hK, ?_⟩⟩
    have hs : ∀ q arr ty p, W.heap[q]? = some (Obj.cells arr ty p) -> (W.putObj D (.deferred none)).heap[q]? = W.heap[q]? := fun q arr ty p hq => World.putObj_heap_other (fun e => by subst e; rw [hK] at hq; cases hq)
    have r2' : W.ownsRow w.heap.size 38 qc.size v (zs.map fun x => y x.1.1).length (qgq c zs) := by rw [List.length_map]; exact r2
    have hd := yc4 r2' HR.out
    have hcl : ∀ q, (F' q ∨ v.ownBlock = some q) -> (F q ∨ w.heap.size <= q) /\ ∃ arr ty p, W.heap[q]? = some (Obj.cells arr ty p) := fun q hq => by
      rcases hq with hq | hq
      · obtain ⟨a1, _, _, a4⟩ := HF.out q hq
        exact ⟨a1, a4⟩
      · obtain ⟨b1, cur, b2⟩ := qin r2 hq
        exact ⟨.inr b1, _, _, _, b2⟩
    refine ⟨_, results_tmp rfl _ _ _, v, zs, _, rfl, hzs, ⟨hi.bel.os, hi.bel.tape, hi.bel.output, by simpa [World.putObj] using hi.bel.size, fun k hk => (World.putObj_heap_other (by have := hbel.size; omega)).trans (hi.bel.block k hk)⟩, qs.mono (t := .sl qc) (fun _ h => h) (fun q hq => ?_) (fun _ _ _ h => h) hd, fun q hq => ?_⟩
    · obtain ⟨_, arr, ty, p, hc⟩ := hcl q hq
      exact hs q arr ty p hc
    · obtain ⟨a1, arr, ty, p, hc⟩ := hcl q hq
      have := (Array.getElem?_eq_some_iff.1 hc).1
      exact ⟨a1, by simpa [World.putObj] using this⟩
end Go.Proofs.YtgieagiaagoogaaGreat
namespace Go.Proofs.YtgieagiaagoogaaGreat
open Go Go.Ab Go.RowKit Go.Proofs Go.Shelf Go.Maps
attribute [local go_sem] Oper.semAt_some
theorem zm2 {w W:World} {F:Nat->Prop} {l:List qb.den} {v:Value} (hb:∀ b,F b->b < w.heap.size) (hW:Below w.heap.size w W) (hx:qs w F (.sl qb) l (fun _ u=>u=v)) (hf:l.length<=1000000) :
  Calls Tryz.prog 70 #[v] W fun e w'=>∃ s:SlT,e = .returned (.slice s.1 s.2.1 s.2.2)/\Below W.heap.size W w' /\
   ∃ F',qs w' F' (.sl qb) l (fun _ u=>u = .slice s.1 s.2.1 s.2.2)/\∀ q,F' q->(F q ∨ W.heap.size<=q)/\∃ arr ty p,w'.heap[q]? = some (.cells arr ty p):=by
 obtain ⟨A,c,rfl,h2,h3,h4⟩:=hx
 have hv:zt w F (.sl qb) l (.slice A l.length c):=⟨rfl,⟨fun h=>(by cases h),fun ⟨cs,h⟩=>(by cases h)⟩,A,c,rfl,h2,h3,h4⟩
 have hx':zt W F (.sl qb) l (.slice A l.length c):=hv.mono (fun _ h=>h) (fun b h=>hW.block b (hb b h))
 refine (qld.2 W F (l,()) [.slice A l.length c] (fun b h=>Nat.lt_of_lt_of_le (hb b h) hW.size) ⟨_,[],rfl,hx',rfl⟩ hf).mono ?_
 rintro e w' ⟨u,F',rfl,hbel,h1,h2,h3⟩
 have h3':zt w' F' (.sl qb) l u:=h3
 have h4':=h3'.only (G:=fun b=>F' b/\∃ arr ty p,w'.heap[b]? = some (.cells arr ty p)) (fun b h hc=>⟨h,hc⟩) rfl
 have h5:qy Tryz.prog w' (fun b=>F' b/\∃ arr ty p,w'.heap[b]? = some (.cells arr ty p)) (fun _ _=>True) (qf1 (.sl qb) l) u:=qbb h4'
 have h6:qs w' (fun b=>F' b/\∃ arr ty p,w'.heap[b]? = some (.cells arr ty p)) (.sl qb) l (fun _ u'=>u'=u):=h5.2
 obtain ⟨A2,c2,e2,h7⟩:=h6
 subst e2
 exact ⟨(A2,l.length,c2),rfl,hbel,(fun b=>F' b/\∃ arr ty p,w'.heap[b]? = some (.cells arr ty p)),⟨A2,c2,rfl,h7⟩,fun q hq=>⟨(h2 q hq.1).1,hq.2⟩⟩
theorem zrc {w:World} {F:Nat->Prop} {l:List qc.den} {v:Value} (h:qs w F (.sl qc) l (fun _ u=>u=v)) :
  ∃ (A:Option Addr) (cap:Nat) (b off:Nat) (c:Nat->ChC),v = .slice A l.length cap/\(0 < l.length->A=some ⟨b,off,none⟩/\F b) /\
   (∀ k j u,k < l.length->(qa9 (c k))[j]? = some u->w.cell? ⟨b,off+(k * 9+j),none⟩=some u) /\
   ∀ k x,l[k]? = some x->(c k).p 0=x.1/\qs w F (.sl qb) x.2.2.2.2.1 (fun _ u=>u = .slice (c k).A (c k).l (c k).c) /\
    ∀ (s:SlT) (Y:World) (F2:Nat->Prop),qs Y F2 (.sl qb) x.2.2.2.2.1 (fun _ u=>u = .slice s.1 s.2.1 s.2.2)->zt Y F2 qc x (qt1 ((c k).set s)):=by
 obtain ⟨A,cap,h0,h1,h2,h3⟩:=h
 by_cases hp:0 < l.length
 ·obtain ⟨ad,hA,hF,hc⟩:=h3 0 l[0] (List.getElem?_eq_getElem hp)
  have hsp:ad.spot=none:=by
   have hc':w.cell? (ad.add (0 * qc.size+0))=some (.int .i64 l[0].1):=hc.1.1
   have he:ad.add (0 * qc.size+0)=ad:=by simp [Addr.add]
   rw [he] at hc'
   unfold World.cell? at hc'
   split at hc'
   ·split at hc'
    ·cases hc'
    ·rename_i hsp
     cases hsp2:ad.spot with
     |none=>rfl
     |some _=>rw [hsp2] at hsp; exact absurd rfl hsp
   ·cases hc'
  obtain ⟨b,off,sp⟩:=ad
  simp only at hsp
  subst hsp
  have hall:∀ k,∃ d:ChC,∀ x,l[k]? = some x->(∀ j u,(qa9 d)[j]? = some u->w.cell? ⟨b,off+(k * 9+j),none⟩=some u)/\d.p 0=x.1/\qs w F (.sl qb) x.2.2.2.2.1 (fun _ u=>u = .slice d.A d.l d.c) /\
    ∀ (s:SlT) (Y:World) (F2:Nat->Prop),qs Y F2 (.sl qb) x.2.2.2.2.1 (fun _ u=>u = .slice s.1 s.2.1 s.2.2)->zt Y F2 qc x (qt1 (d.set s)):=by
   intro k
   cases hk:l[k]? with
   |none=>exact ⟨⟨fun _=>0,none,0,0⟩,fun x hx=>by cases hx⟩
   |some x=>
    obtain ⟨ad',hA',_,hr⟩:=h3 k x hk
    rw [hA] at hA'
    cases hA'
    obtain ⟨d,hd,hd0⟩:=zvr hr
    refine ⟨d,fun y hy=>?_⟩
    cases hy
    refine ⟨fun j u hj=>?_,hd0⟩
    have:=hd j u hj
    rw [show qc.size=9 from rfl] at this
    have e:(⟨b,off,none⟩:Addr).add (k * 9+j)=⟨b,off+(k * 9+j),none⟩:=by unfold Addr.add; split<;>simp_all
    rw [e] at this
    exact this
  obtain ⟨c,hcc⟩:=Classical.axiomOfChoice hall
  exact ⟨A,cap,b,off,c,h0.symm,fun _=>⟨hA,hF⟩,fun k j u hk hj=>(hcc k l[k] (List.getElem?_eq_getElem hk)).1 j u hj,fun k x hx=>(hcc k x hx).2⟩
 ·refine ⟨A,cap,0,0,fun _=>⟨fun _=>0,none,0,0⟩,h0.symm,fun h=>absurd h hp,fun k j u hk=>absurd hk (by omega),fun k x hx=>?_⟩
  have:=(List.getElem?_eq_some_iff.1 hx).1
  omega
def qpl (day:Int) (l:List qc.den):List qc.den:=l.filter fun x=>decide (x.1<=day)
theorem zvz {c:Nat->ChC} {day:Int} {l:List qc.den} (hc:∀ k x,l[k]? = some x->(c k).p 0=x.1):(qgr c day l.length).map (fun k=>l.getD k qc.dflt)=qpl day l:=by
 have hl:l=(List.range l.length).map (fun k=>l.getD k qc.dflt):=by
  apply List.ext_getElem
  ·simp
  ·intro i h1 h2
   simp [List.getD_eq_getElem?_getD,List.getElem?_eq_getElem h1]
 unfold qpl qgr
 conv=>rhs; rw [hl]
 rw [List.filter_map]
 congr 1
 apply List.filter_congr
 intro k hk
 have hk':k < l.length:=List.mem_range.1 hk
 have h1:=hc k l[k] (List.getElem?_eq_getElem hk')
 simp only [Function.comp_apply,List.getD_eq_getElem?_getD,List.getElem?_eq_getElem hk',Option.getD_some]
 rw [h1]
set_option maxRecDepth 100000 in
set_option maxHeartbeats 1000000 in
theorem zrm (n:Nat) (hn:3<=n) (c:Nat->ChC) (F:Nat->Prop) (y:Nat->qc.den) (len:Nat) (hlen:len<=1000000) (gf:Nat) (lb:Array Value) (eg:∀ args w,(callFunc gf args).run Tryz.prog w = .ok (.enter gf args) w) (w:World) (hF:∀ q,F q->q < w.heap.size) (S:List (Fin len × SlT)->Prop)
  (hseq:∀ w0,Below w.heap.size w w0->zqp Fence.wide (n - 1 - 1) Tryz.prog gf lb (fun x:Fin len × SlT=>#[qps c x]) (qv0 c F y) (Below w.heap.size) S len w0) :
  CallsIn Fence.wide n Tryz.prog 135 #[.func (.func gf) #[] lb] w fun e w'=>∃ v xs F',e = .returned v/\S xs/\Below w.heap.size w w' /\
   qs w' F' (.sl qc) (xs.map fun x=>y x.1.1) (fun _ u=>u=v)/\∀ q,F' q->(F q ∨ w.heap.size<=q)/\q < w'.heap.size:=by
 refine callsIn_of_wp Tryz.func135 rfl trivial ?_ rfl
 simp only [Tryz.ntmps135,List.size_toArray,List.length_cons,List.length_nil,Nat.reduceAdd,Nat.reduceSub,Array.replicate_succ,Array.replicate_zero,List.push_toArray,List.append_toArray,List.nil_append,List.cons_append]
 gi_wp2
 refine ⟨trivial,fun _=>by omega,?_⟩
 refine (zvf (n - 1) (by omega) c F y len hlen gf lb eg w hF S hseq).mono ?_
 rintro e w' ⟨v,xs,F',rfl,hS,hb,hr,hq⟩
 gi_wp2
 go_ret
 exact ⟨v,xs,F',rfl,hS,hb,hr,hq⟩
theorem zzi (n:Nat) (hn:1<=n) {w:World} {F:Nat->Prop} (hF:∀ q,F q->q < w.heap.size) {l:List qc.den} {v:Value} {day:Int} {Bh oh Bd od:Nat} (hBh:Bh < w.heap.size) (hBd:Bd < w.heap.size) (hv:w.cell? ⟨Bh,oh+9,none⟩=some v) (hday:w.cell? ⟨Bd,od,none⟩=some (.int .i64 day)) (hl:l.length<=1000000) (hfew:∀ x ∈ l,x.2.2.2.2.1.length<=1000000)
  {A:Option Addr} {cap b off:Nat} {c:Nat->ChC} (e0:v = .slice A l.length cap) (hA:0 < l.length->A=some ⟨b,off,none⟩/\F b) (hc:∀ k j u,k < l.length->(qa9 (c k))[j]? = some u->w.cell? ⟨b,off+(k * 9+j),none⟩=some u)
  (hx:∀ k x,l[k]? = some x->(c k).p 0=x.1/\qs w F (.sl qb) x.2.2.2.2.1 (fun _ u=>u = .slice (c k).A (c k).l (c k).c) /\
    ∀ (s:SlT) (Y:World) (F2:Nat->Prop),qs Y F2 (.sl qb) x.2.2.2.2.1 (fun _ u=>u = .slice s.1 s.2.1 s.2.2)->zt Y F2 qc x (qt1 ((c k).set s)))
  (w0:World) (hw0:Below w.heap.size w w0) :
  zqp Fence.wide n Tryz.prog 177 #[.pointer (some ⟨Bh,oh,none⟩),.pointer (some ⟨Bd,od,none⟩)] (fun x:Fin l.length × SlT=>#[qps c x]) (qv0 c F fun k=>l.getD k qc.dflt) (Below w.heap.size) (fun xs=>xs.map (fun x=>x.1.1)=qgr c day l.length) l.length w0:=by
 intro lp J W hW hJ hY h0
 have hwW:Below w.heap.size w W:=hw0.trans (hW.mono hw0.size)
 refine yeu n hn lp Bh oh Bd od w.heap.size b off l.length cap day c hl A (fun h=>⟨(hA h).1,hF b (hA h).2⟩) (qv0 c F fun k=>l.getD k qc.dflt) J (fun pre X Y hj hb=>qkr hJ hj hb) W hwW.size ?_ ?_
  ((World.cell?_of_block (hwW.block Bh hBh)).trans (hv.trans (by rw [e0]))) ((World.cell?_of_block (hwW.block Bd hBd)).trans hday) (fun k j u hk hj=>(World.cell?_of_block (hwW.block b (hF _ (hA (by omega)).2))).trans (hc k j u hk hj)) h0
 ·intro k X hX
  have hk:l[k.1]? = some l[k.1]:=List.getElem?_eq_getElem k.2
  obtain ⟨_,hr,hset⟩:=hx k.1 _ hk
  refine (zm2 hF (hwW.trans hX.1) hr (hfew _ (List.getElem_mem k.2))).mono ?_
  rintro e w' ⟨s,rfl,hb,F',hr2,hq⟩
  refine ⟨s,rfl,hb,fun Bx X0 Y h1 h2 h3 h4=>⟨F',?_,fun q hq'=>?_⟩⟩
  ·have hg:(l.getD k.1 qc.dflt)=l[k.1]:=by rw [List.getD_eq_getElem?_getD,hk]; rfl
   show zt Y F' qc (l.getD k.1 qc.dflt) (qps c (k,s))
   rw [hg]
   refine hset s Y F' (qs.mono (t:=.sl qb) (fun _ h=>h) (fun q hq'=>h4 q fun e=>?_) (fun _ _ _ h=>h) hr2)
   rcases (hq q hq').1 with h | h
   ·have:=hF q h
    omega
   ·omega
  ·obtain ⟨a1,arr,ty,p,hcc⟩:=hq q hq'
   refine ⟨a1.elim .inl fun h=>.inr (Nat.le_trans h3 h),arr,ty,p,(h4 q fun e=>?_).trans hcc⟩
   rcases a1 with h | h
   ·have:=hF q h
    omega
   ·omega
 ·intro pre x X0 X hj hb hE hlt
  obtain ⟨fn,tmps,assign,body,hy,hR⟩:=hY pre x X0 X hj hb hE hlt
  refine ⟨fn,tmps,assign,body,hy,hR.mono ?_⟩
  rintro e W' ⟨rfl,hj2,hb2⟩
  exact ⟨rfl,hj2,hb2,hb2.block _ hBh,hb2.block _ hBd⟩
theorem zfn {w:World} {F:Nat->Prop} (hF:∀ q,F q->q < w.heap.size) {l:List qc.den} {v:Value} {day:Int} {Bh Bd:Nat} (hBh:Bh < w.heap.size) (hBd:Bd < w.heap.size) (hv:w.cell? ⟨Bh,9,none⟩=some v) (hr:qs w F (.sl qc) l (fun _ u=>u=v)) (hday:w.cell? ⟨Bd,0,none⟩=some (.int .i64 day))
  (hl:l.length<=1000000) (hfew:∀ x ∈ l,x.2.2.2.2.1.length<=1000000) :
  Calls Tryz.prog 135 #[.func (.func 177) #[] #[.pointer (some ⟨Bh,0,none⟩),.pointer (some ⟨Bd,0,none⟩)]] w fun e w'=>∃ u F',e = .returned u/\Below w.heap.size w w' /\
   qs w' F' (.sl qc) (qpl day l) (fun _ u'=>u'=u)/\∀ q,F' q->(F q ∨ w.heap.size<=q)/\q < w'.heap.size:=by
 obtain ⟨A,cap,b,off,c,e0,hA,hc,hx⟩:=zrc hr
 refine (callsIn_wide.1 (zrm 4 (by omega) c F (fun k=>l.getD k qc.dflt) l.length hl 177 _ (enters_of Tryz.func177 (by kernel_rfl) rfl) w hF (fun xs=>xs.map (fun x=>x.1.1)=qgr c day l.length)
  (fun w0 hw0=>zzi 2 (by omega) hF hBh hBd (oh:=0) hv hday hl hfew e0 hA hc hx w0 hw0))).mono ?_
 rintro e w' ⟨u,xs,F',rfl,hS,hb,hr2,hq⟩
 refine ⟨u,F',rfl,hb,?_,hq⟩
 have:(xs.map fun x=>l.getD x.1.1 qc.dflt)=qpl day l:=by
  rw [← zvz (c:=c) fun k x h=>(hx k x h).1,← hS,List.map_map]
  rfl
 rw [← this]
 exact hr2
end Go.Proofs.YtgieagiaagoogaaGreat
namespace Go.Proofs.YtgieagiaagoogaaGreat
open Go Go.Ab Go.RowKit Go.Proofs
def zwn (l:List qc.den):Prop:=l.length<=1000000/\∀ x ∈ l,x.2.2.2.2.1.length<=1000000
def ya0 (_:Nat) (g:FuncId) (args:List AV) (s:St):Option Tr:=
 if g=135 then match args with
  |[.c (.fn f [.ptr i 0,.ptr k 0])]=>match s.mem i,s.mem k with
   |some (.box _ [_,_,_,_,_,_,_,_,_,.sl t l]),some (.box _ [.int .i64 day])=>
    if h:t=qc then if f=177 then some (needL [zwn (kr h l)] (.leaf (.val (.c (.sl qc (qpl day (kr h l))))) s)) else none else none
   |_,_=>none
  |_=>none
 else none
theorem yhb:qhs Tryz.prog ya0:=by
 intro d g args s t ht
 unfold ya0 at ht
 split at ht<;>try (cases ht; done)
 rename_i hg
 subst hg
 split at ht<;>try (cases ht; done)
 rename_i f i k
 split at ht<;>try (cases ht; done)
 rename_i ty1 c0 c1 c2 c3 c4 c5 c6 c7 c8 t l ty2 day hm1 hm2
 split at ht<;>try (cases ht; done)
 rename_i h
 subst h
 split at ht<;>try (cases ht; done)
 rename_i hf
 subst hf
 simp only [Option.some.injEq] at ht
 subst ht
 refine ⟨enters_of Tryz.func135 (by kernel_rfl) rfl,fun E a w F γ vs Q hi hr hq=>?_⟩
 obtain ⟨⟨hf1,hf2⟩,hqv⟩:=hq
 match vs,hr with
 |[v1],⟨⟨_,hv1⟩,_⟩=>
  obtain ⟨arr,rfl,hsz,hcaps⟩:=hv1
  obtain ⟨⟨u0,hu0,_,b1,hR1,rfl⟩,⟨u1,hu1,_,b2,hR2,rfl⟩,_⟩:=hcaps
  have g1 : .pointer (some ⟨b1,0,none⟩)=γ i:=by
   have:=hR1
   unfold qn at this
   rw [hm1] at this
   exact this
  have g2 : .pointer (some ⟨b2,0,none⟩)=γ k:=by
   have:=hR2
   unfold qn at this
   rw [hm2] at this
   exact this
  have ha:arr = #[.pointer (some ⟨b1,0,none⟩),.pointer (some ⟨b2,0,none⟩)]:=by
   apply Array.ext
   ·exact hsz
   ·intro i h1 h2
    have hu1':arr[1]? = some (.pointer (some ⟨b2,0,none⟩)):=hu1
    match i,h2 with
    |0,_=>
     rw [Array.getElem?_eq_getElem h1] at hu0
     exact Option.some.inj hu0
    |1,_=>
     rw [Array.getElem?_eq_getElem h1] at hu1'
     exact Option.some.inj hu1'
  subst ha
  obtain ⟨d1,ar1,e1,hb1,_,_,hs1,hcl⟩:=hi.mem.ob i _ hm1
  obtain ⟨d2,ar2,e2,hb2,_,_,hs2,hcl2⟩:=hi.mem.ob k _ hm2
  rw [← g1] at e1
  rw [← g2] at e2
  cases e1
  cases e2
  obtain ⟨_,_,_,_,_,_,_,_,_,⟨x9,hx9,_,hr9⟩,_⟩:=hcl
  obtain ⟨⟨y0,hy0,_,hd0⟩,_⟩:=hcl2
  have hday:y0 = .int .i64 day:=hd0.1
  subst hday
  refine (zfn (ke hi) (Array.getElem?_eq_some_iff.1 hb1).1 (Array.getElem?_eq_some_iff.1 hb2).1 ((qh hb1 9).trans hx9) hr9 ((qh hb2 0).trans hy0) hf1 hf2).mono fun e w2 hp=>?_
  obtain ⟨u,F2,rfl,hb,hr2,hq2⟩:=hp
  have hBs:=Step.size' hi
  obtain ⟨s1,m1⟩:=Step.below hi.mem hBs (ke hi) (F':=fun q=>F q ∨ F2 q) hb (fun _ h=>.inl h) (fun b hb'=>hb'.elim (fun h=>⟨.inl h,Nat.lt_of_lt_of_le (ke hi b h) hb.size⟩) (fun h=>hq2 b h))
  have hinv:InvG Tryz.prog E s a w2 [] (fun q=>F q ∨ F2 q) γ:=by
   refine ⟨hi.n,hi.df,?_,m1,fun t=>(hi.sl t).mono s1.hF s1.hw s1.hR,hi.hg,fun t=>s1.repA (hi.gh t)⟩
   obtain ⟨γ0,h0⟩:=hi.step
   exact ⟨γ0,h0.trans s1⟩
  have hr3:qs w2 (fun q=>F q ∨ F2 q) (.sl qc) (qpl day (kr rfl l)) (fun _ u'=>u'=u):=qs.mono (t:=.sl qc) (fun _ h=>Or.inr h) (fun _ _=>rfl) (fun _ _ _ h=>h) hr2
  refine ⟨_,_,_,γ,hqv,hinv,u,rfl,?_,hr3⟩
  obtain ⟨A,c,e1,_⟩:=hr2
  rw [← e1]
  rfl
noncomputable def XiK:FuncId->Option (Func × (Nat->St->Option Tr)):=qai [(136,(Tryz.f136,qp))]
theorem ylg:∀ f fn Λ,XiK f=some (fn,Λ)->Tryz.prog.funcs[f]? = some fn/\∀ c E',fn.body=some c->jt Tryz.prog E' Λ c 0:=fun f fn Λ h=>by
 simp only [XiK,qai] at h
 split at h
 ·rename_i hf
  subst hf
  cases h
  exact ⟨by kernel_rfl,fun c E' _=>qd c 0⟩
 ·cases h
noncomputable def yks:Cx:=cx [] []
theorem ygd:CxOK Tryz.prog yks:=zb (cs:=[]) (ps:=[]) qv trivial trivial
noncomputable def CKn:Cx:=cxK [(70,qeb qb)] [] (orK (qp6 Tryz.prog yks XiK) ya0)
theorem ykt:CxOK Tryz.prog CKn:=qcz (ps:=[]) qv ⟨qld,trivial⟩ trivial (zla (qil ygd ylg) yhb)
def zxv:ql.den:=(0,0,((0,0,()),(0,0,0,0,()),[],()),[],())
def atH (h:ql.den) (d:Int):ql.den × Int:=if d < h.2.1 then (zxv,7) else ((h.1,h.2.1,h.2.2.1,qpl d h.2.2.2.1,()),0)
def qxv:Ct:=⟨[.d ql,.d i64],[ql,i64],fun x=>((atH x.1 x.2.1).1,(atH x.1 x.2.1).2,()),fun x=>[jf x.1]⟩
def qzz (x:qm [.d ql,.d i64]):Fr (qi [ql,i64]):=
 let h:ql.den:=x.1; let d:Int:=x.2.1
 Fr.br (decide (h.2.1 > d)) (Fr.val (zxv,7,()))
  (Fr.need (List.length (α:=qb.den) h.2.2.1.2.2.1<=1000000)
   (Fr.need (zwn h.2.2.2.1)
    (Fr.val ((h.1,h.2.1,((h.2.2.1.1.1,h.2.2.1.1.2.1,()),(h.2.2.1.2.1.1,h.2.2.1.2.1.2.1,h.2.2.1.2.1.2.2.1,h.2.2.1.2.1.2.2.2.1,()),((qeb qb).f (h.2.2.1.2.2.1,())).1,()),qpl d h.2.2.2.1,()),0,()))))
theorem yig:qa Tryz.prog 92 ⟨[.d ql,.d i64],[ql,i64],fun xs=>(qzz xs).get,fun xs=>[(qzz xs).ok]⟩:=
 qg ykt (Λ:=qp) (fn:=Tryz.f92) (fr:=qzz) (ps:=[.d ql,.d i64]) (rs:=[ql,i64]) (ql.dflt,0,()) (by kernel_rfl) (fun c E _=>qd c 0) (fun x=>by kernel_rfl)
theorem ymy (h:ql.den) (d:Int) (hf:jf h):(qzz (h,d,())).ok/\(qzz (h,d,())).get=((atH h d).1,(atH h d).2,()):=by
 unfold atH
 by_cases h1:d < h.2.1
 ·rw [if_pos h1]
  exact Fr.br_t (by simpa using h1) ⟨trivial,rfl⟩
 ·rw [if_neg h1]
  exact Fr.br_f (by simpa using h1) (Fr.need_ hf.2.1 (Fr.need_ ⟨Nat.le_trans hf.1 (by decide),hf.2.2⟩ ⟨trivial,rfl⟩))
theorem ymz:qa Tryz.prog 92 qxv:=
 vt yig _ _ (fun w F x vs hr hok=>by
  obtain ⟨h,d,_⟩:=x
  exact ymy h d hok)
theorem ygy {h:ql.den} (hf:jf h) (d:Int):jf (atH h d).1:=by
 unfold atH
 split
 ·exact ⟨by decide,by decide,fun c hc=>by cases hc⟩
 ·refine ⟨Nat.le_trans (List.length_filter_le _ _) hf.1,hf.2.1,fun c hc=>hf.2.2 c (List.mem_filter.1 hc).1⟩
def qce (h:ql.den) (t:zd.den) (d:Int):List qk.den × Int:=if (atH h d).2=0 then ofF (atH h d).1 t else ([],(atH h d).2)
def qty:Ct:=⟨[.d ql,.d zd,.d i64],[qac,i64],fun x=>((qce x.1 x.2.1 x.2.2.1).1,(qce x.1 x.2.1 x.2.2.1).2,()),fun x=>[jf x.1,jq x.2.1]⟩
noncomputable def CKs:Cx:=cx [(92,qxv),(46,cOf)] []
theorem ykv:CxOK Tryz.prog CKs:=zb (ps:=[]) qv ⟨ymz,ztc,trivial⟩ trivial
noncomputable def CK2:Cx:=cx [] []
theorem zhh:CxOK Tryz.prog CK2:=zb (cs:=[]) (ps:=[]) qv trivial trivial
abbrev pFi:Pt:=⟨21,0,⟨[(10,.d i64),(9,.d i64),(8,.d (.sl qb)),(1,.d i64)],[.x 4 86 qb,.r 4 4 0]⟩,⟨[],[.x 4 86 qb,.r 4 4 0]⟩,⟨[(5,.d .bool)],[.x 4 86 qb,.r 4 4 0]⟩⟩
def fFi (z:pFi.M.X):Fr pFi.Out:=
 let i:Int:=z.1.1; let n:Int:=z.1.2.1; let l:List qb.den:=z.1.2.2.1; let p:Int:=z.1.2.2.2.1; let o:qb.den:=z.2.1
 let e:qb.den:=l.getD i.toNat qb.dflt
 Fr.br (decide (i < n))
  (Fr.need (0<=i/\i < (l.length:Int)) (Fr.br (e.1==p) (Fr.val (Rd.back ((true,()),(e,())))) (Fr.val (Rd.next ((IntKind.i64.wrap (i+1),n,l,p,()),(o,()))))))
  (Fr.val (Rd.out ((),(o,()))))
theorem yqf:qe Tryz.prog (qo Tryz.f58 0) pFi.M pFi fFi:=qe.of_run zhh (bs:=0) rfl rfl rfl (fun _=>qd _ 0) (fun x=>by kernel_rfl)
def qdj:qb.den:=(0,0,0,0,0,())
def qaa (p:Int):List qb.den->qb.den × Bool
 |[]=>(qdj,false)
 |c :: l=>if c.1=p then (c,true) else qaa p l
theorem qzu {p:Int}:{l:List qb.den}->(qaa p l).2=false->(qaa p l).1=qdj
 |[],_=>rfl
 |c :: l,h=>by
  unfold qaa at h ⊢
  split at h
  ·cases h
  ·rename_i hn
   rw [if_neg hn]
   exact qzu h
structure InFi (i n:Int) (l:List qb.den):Prop where
 i0:0<=i
 il:i<=n
 nl:n=l.length
 big:n<=9223372036854775807
def ztn (o:qb.den) (r:qb.den × Bool):Fr pFi.Out:=Fr.br r.2 (Fr.val (Rd.back ((true,()),(r.1,())))) (Fr.val (Rd.out ((),(o,()))))
def FFi (z:pFi.M.X):Fr pFi.Out:=Fr.need (InFi z.1.1 z.1.2.1 z.1.2.2.1) (ztn z.2.1 (qaa z.1.2.2.2.1 (z.1.2.2.1.drop z.1.1.toNat)))
theorem ypq (i n:Int) (l:List qb.den) (p:Int) (o:qb.den) (hinv:InFi i n l) (Q:pFi.Out->Prop) (hq:(ztn o (qaa p (l.drop i.toNat))).satP Q) :
  (fFi ((i,n,l,p,()),(o,()))).satP fun
   |.next x'=>InFi x'.1.1 x'.1.2.1 x'.1.2.2.1/\((x'.1.2.1:Int) - x'.1.1).toNat < (n - i).toNat/\(FFi x').satP Q
   |.out y=>Q (.out y)
   |.back z=>Q (.back z)
   |.pan p=>Q (.pan p):=by
 obtain ⟨h1,h2,rfl,h4⟩:=hinv
 refine ⟨fun hi=>?_,fun hi=>?_⟩
 ·have hi':i < (l.length:Int):=of_decide_eq_true hi
  obtain ⟨k,rfl⟩:∃ n:Nat,i=n:=⟨i.toNat,by omega⟩
  have hl:k < l.length:=by omega
  have hk:(k:Int).toNat=k:=by omega
  have hk1:((k:Int)+1).toNat=k+1:=by omega
  rw [hk] at hq
  have hw:IntKind.i64.wrap ((k:Int)+1)=k+1:=IntWalk.i64_in _ (by omega)
  have g1:l.getD (k:Int).toNat qb.dflt=l[k]:=by
   rw [hk,List.getD_eq_getElem?_getD,List.getElem?_eq_getElem hl]; rfl
  rw [List.drop_eq_getElem_cons hl] at hq
  dsimp only [fFi,Fr.satP]
  rw [g1,hw]
  refine ⟨⟨by omega,by omega⟩,fun hb=>?_,fun hb=>?_⟩
  ·have hb':l[k].1=p:=beq_iff_eq.1 hb
   have e:qaa p (l[k] :: l.drop (k+1))=(l[k],true):=if_pos hb'
   rw [e] at hq
   exact hq.1 rfl
  ·have hb':¬ l[k].1=p:=beq_eq_false_iff_ne.1 hb
   have e:qaa p (l[k] :: l.drop (k+1))=qaa p (l.drop (k+1)):=if_neg hb'
   rw [e] at hq
   have hI:InFi ((k:Int)+1) (l.length:Int) l:=⟨by omega,by omega,rfl,h4⟩
   refine ⟨hI,by show ((l.length:Int) - ((k:Int)+1)).toNat < ((l.length:Int) - (k:Int)).toNat; omega,hI,?_⟩
   show (ztn o (qaa p (l.drop ((k:Int)+1).toNat))).satP Q
   rw [hk1]
   exact hq
 ·have hi':¬ i < (l.length:Int):=of_decide_eq_false hi
  have:l.drop i.toNat=[]:=List.drop_eq_nil_of_le (by omega)
  rw [this] at hq
  exact hq.2 rfl
theorem yni:qe Tryz.prog (.loop (qo Tryz.f58 0)) pFi.M pFi FFi:=by
 refine qe.loop (n:=21) (id:=0) yqf (inv:=fun x=>InFi x.1.1 x.1.2.1 x.1.2.2.1) (μ:=fun x=>((x.1.2.1:Int) - x.1.1).toNat) ?_ (fun x Q h=>h.1)
 rintro ⟨⟨i,n,l,p,_⟩,o,_⟩ hinv Q hq
 exact ypq i n l p o hinv Q hq.2
def zgl:Ct:=⟨[.d (.sl qb),.d i64],[qb,.bool],fun x=>((qaa x.2.1 x.1).1,(qaa x.2.1 x.1).2,()),fun _=>[]⟩
def yre (x:qm [.d (.sl qb),.d i64]):Fr (qi [qb,.bool]):=
 let l:List qb.den:=x.1; let p:Int:=x.2.1
 Fr.need (InFi 0 l.length l) (Fr.br (qaa p (l.drop (0:Int).toNat)).2 (Fr.val ((qaa p (l.drop (0:Int).toNat)).1,true,())) (Fr.val (qdj,false,())))
theorem yhu:qa Tryz.prog 58 zgl:=
 vt (qg zhh (Λ:=fun _=>pFi.han CK2.Γ pFi.M FFi) (fn:=Tryz.f58) (fr:=yre) (ps:=[.d (.sl qb),.d i64]) (rs:=[qb,.bool]) ([],0,()) (by kernel_rfl)
  (fun c E hc=>yz hc (by kernel_rfl) (b:=qo Tryz.f58 0) (by kernel_rfl) (qe.han zhh rfl yni)) (fun x=>by kernel_rfl)) _ _
  (fun w F x vs hr _=>by
   obtain ⟨l,p,_⟩:=x
   obtain ⟨v1,vs1,rfl,h1,_⟩:=hr
   have hlen:(l.length:Int)<=9223372036854775807:=qcg h1
   have hI:InFi 0 (l.length:Int) l:=⟨Int.le_refl _,Int.natCast_nonneg _,rfl,hlen⟩
   refine Fr.need_ hI ?_
   show (Fr.br (qaa p l).2 (Fr.val ((qaa p l).1,true,())) (Fr.val (qdj,false,())):Fr (qi [qb,.bool])).ok/\(Fr.br (qaa p l).2 (Fr.val ((qaa p l).1,true,())) (Fr.val (qdj,false,())):Fr (qi [qb,.bool])).get=((qaa p l).1,(qaa p l).2,())
   cases hf:(qaa p l).2 with
   |true=>exact Fr.br_t rfl ⟨trivial,rfl⟩
   |false=>
    rw [qzu hf]
    exact Fr.br_f rfl ⟨trivial,rfl⟩)
def qqu:Pc:=⟨[.d .bool,.d i64],[],fun _=>(),fun x=>!x.1,fun x=>⟨117+1000000,.i64,x.2.1⟩,fun _=>[]⟩
set_option maxRecDepth 100000 in
theorem zzf:qdi Tryz.prog 54 qqu:=by
 refine ⟨enters (fn:=Tryz.f54) (by kernel_rfl) rfl rfl,fun w F xs vs hb hr _=>?_⟩
 obtain ⟨v,vs',rfl,hv,v2,vs'',rfl,hv2,hn⟩:=hr
 cases hn
 obtain ⟨s,n,_⟩:=xs
 have hv':v = .bool s:=by
  have h:qy Tryz.prog w F (fun _ _=>True) (qf1 .bool s) v:=qbb hv
  exact h.2
 have hv2':v2 = .int .i64 n:=by
  have h:qy Tryz.prog w F (fun _ _=>True) (qf1 i64 n) v2:=qbb hv2
  exact h.2.1
 subst hv'
 subst hv2'
 cases s
 ·go_enter Tryz.func54,Tryz.ntmps54
  go_wp2
  refine ⟨rfl,.inr ⟨rfl,?_,Below.refl _ _⟩⟩
  show Ending.panicked _=Ending.panicked [{ v:=PV.val ⟨117+1000000,.i64,n⟩,recovered:=false }]
  rw [PV.val_high (p:=⟨117+1000000,.i64,n⟩) (T:=117) rfl]
 ·go_enter Tryz.func54,Tryz.ntmps54
  go_wp2
  go_end0
  refine .inl ⟨rfl,.tuple #[],F,rfl,Below.refl _ _,fun _ h=>h,fun b h=>⟨.inl h,hb b h⟩,#[],rfl,rfl⟩
theorem zwu {w:World} {b1 b2:Nat} {t1 t2:TypeId} {a0 a1 a2 a3 a4 c v0 v1 v2 v3 v4 u:Value} (hne:b1 ≠ b2) (h1:w.heap[b1]? = some (.cells #[a0,a1,a2,a3,a4] t1 (0,0))) (h2:w.heap[b2]? = some (.cells #[c] t2 (0,0))) :
  zf7 (((((((w.setCell ⟨b1,0,none⟩ v0).setCell ⟨b1,1,none⟩ v1).setCell ⟨b1,2,none⟩ v2).setCell ⟨b1,3,none⟩ v3).setCell ⟨b1,4,none⟩ v4).setCell ⟨b2,0,none⟩ u).drew) ((w.setRow b1 #[v0,v1,v2,v3,v4]).setRow b2 #[u]):=by
 have d1:∀ X:World,X.drew.os=X.os/\X.drew.tape=X.tape/\X.drew.output=X.output/\X.drew.heap=X.heap:=fun _=>⟨rfl,rfl,rfl,rfl⟩
 have d2:∀ (X:World) (a:Addr) (v:Value),(X.setCell a v).os=X.os/\(X.setCell a v).tape=X.tape/\(X.setCell a v).output=X.output:=fun _ _ _=>⟨rfl,rfl,rfl⟩
 have d3:∀ (X:World) (b:Nat) (v:Array Value),(X.setRow b v).os=X.os/\(X.setRow b v).tape=X.tape/\(X.setRow b v).output=X.output:=fun _ _ _=>⟨rfl,rfl,rfl⟩
 unfold zf7
 simp only [(d1 _).1,(d1 _).2.1,(d1 _).2.2.1,(d1 _).2.2.2,(d2 _ _ _).1,(d2 _ _ _).2.1,(d2 _ _ _).2.2,(d3 _ _ _).1,(d3 _ _ _).2.1,(d3 _ _ _).2.2,and_self,and_true]
 have g0:=heap_setCell_same w b1 0 _ t1 v0 h1
 rw [show (#[a0,a1,a2,a3,a4]:Array Value).setIfInBounds 0 v0 = #[v0,a1,a2,a3,a4] from rfl] at g0
 have g1:=heap_setCell_same _ b1 1 _ t1 v1 g0
 rw [show (#[v0,a1,a2,a3,a4]:Array Value).setIfInBounds 1 v1 = #[v0,v1,a2,a3,a4] from rfl] at g1
 have g2:=heap_setCell_same _ b1 2 _ t1 v2 g1
 rw [show (#[v0,v1,a2,a3,a4]:Array Value).setIfInBounds 2 v2 = #[v0,v1,v2,a3,a4] from rfl] at g2
 have g3:=heap_setCell_same _ b1 3 _ t1 v3 g2
 rw [show (#[v0,v1,v2,a3,a4]:Array Value).setIfInBounds 3 v3 = #[v0,v1,v2,v3,a4] from rfl] at g3
 have g4:=heap_setCell_same _ b1 4 _ t1 v4 g3
 rw [show (#[v0,v1,v2,v3,a4]:Array Value).setIfInBounds 4 v4 = #[v0,v1,v2,v3,v4] from rfl] at g4
 have oo:∀ i,i ≠ b1->(((((w.setCell ⟨b1,0,none⟩ v0).setCell ⟨b1,1,none⟩ v1).setCell ⟨b1,2,none⟩ v2).setCell ⟨b1,3,none⟩ v3).setCell ⟨b1,4,none⟩ v4).heap[i]? = w.heap[i]? := fun i hi=>
  (heap_setCell_other _ _ i _ hi).trans ((heap_setCell_other _ _ i _ hi).trans ((heap_setCell_other _ _ i _ hi).trans ((heap_setCell_other _ _ i _ hi).trans (heap_setCell_other _ _ i _ hi))))
 generalize ((((w.setCell ⟨b1,0,none⟩ v0).setCell ⟨b1,1,none⟩ v1).setCell ⟨b1,2,none⟩ v2).setCell ⟨b1,3,none⟩ v3).setCell ⟨b1,4,none⟩ v4=X at g4 oo
 have k2:=heap_setCell_same X b2 0 _ t2 u ((oo b2 (Ne.symm hne)).trans h2)
 have r1:=setRow_heap w b1 _ #[v0,v1,v2,v3,v4] t1 (0,0) h1
 have r2:=setRow_heap (w.setRow b1 #[v0,v1,v2,v3,v4]) b2 _ #[u] t2 (0,0) ((setRow_other w b1 b2 _ (Ne.symm hne)).trans h2)
 apply Array.ext_getElem?
 intro i
 by_cases i1:i=b1
 ·subst i1
  exact ((heap_setCell_other _ _ i _ hne).trans g4).trans ((setRow_other _ b2 i _ hne).trans r1).symm
 ·by_cases i2:i=b2
  ·subst i2
   exact k2.trans r2.symm
  ·exact ((heap_setCell_other _ _ i _ i2).trans (oo i i1)).trans ((setRow_other _ b2 i _ i2).trans (setRow_other _ b1 i _ i1)).symm
set_option maxRecDepth 100000 in
set_option maxHeartbeats 2000000 in
theorem zus:ToldTwo Tryz.prog 53 117 .i64 5:=by
 refine ⟨enters (fn:=Tryz.f53) (by kernel_rfl) rfl rfl,fun p q w=>?_,fun b1 b2 t1 t2 o1 o2 n w hne h1 hs1 h2 hs2=>?_⟩
 ·refine callsD_of_wpS Tryz.func53 rfl fun c₀ cs hu=>?_
  simp only [Tryz.ntmps53,List.size_toArray,List.length_cons,List.length_nil,Nat.reduceAdd,Nat.reduceSub,Array.replicate_succ,Array.replicate_zero,List.push_toArray,List.append_toArray,List.nil_append,List.cons_append]
  apply wpS_seq
  apply wpS_region
  simp [wpOpsS,go_sem,recoverD,hu,Exit.thenS]
  refine wpS_of_wp ?_
  go_wp2
  cases c₀
  simp_all [bodyPostS,results,Tryz.results53]
 ·have hta:∀ w,(Instr.typeAssert (.iface 117 (.agg #[.int .i64 n])) 20 117 false).run Tryz.prog w = .ok (.agg #[.int .i64 n]) w:=fun _=>by kernel_rfl
  have hfd:∀ w,(Instr.field 117 (.agg #[.int .i64 n]) 0).run Tryz.prog w = .ok (.int .i64 n) w:=fun _=>by kernel_rfl
  obtain ⟨a0,a1,a2,a3,a4,rfl⟩:∃ a0 a1 a2 a3 a4,o1 = #[a0,a1,a2,a3,a4]:=⟨o1[0],o1[1],o1[2],o1[3],o1[4],by
   apply Array.ext
   ·exact hs1
   ·intro i h1 h2
    match i,h2 with
    |0,_ | 1,_ | 2,_ | 3,_ | 4,_=>rfl⟩
  obtain ⟨c0,rfl⟩:=qqa hs2
  have x0:=qh h1 0
  have x1:=qh h1 1
  have x2:=qh h1 2
  have x3:=qh h1 3
  have x4:=qh h1 4
  have y0:=qh h2 0
  simp at x0 x1 x2 x3 x4 y0
  have f1:∀ j,w.frozen? ⟨b1,j,none⟩=false:=fun j=>by simp [World.frozen?,h1]
  have f2:w.frozen? ⟨b2,0,none⟩=false:=by simp [World.frozen?,h2]
  refine callsD_of_wpS Tryz.func53 rfl fun c₀ cs hu=>?_
  simp only [Tryz.ntmps53,List.size_toArray,List.length_cons,List.length_nil,Nat.reduceAdd,Nat.reduceSub,Array.replicate_succ,Array.replicate_zero,List.push_toArray,List.append_toArray,List.nil_append,List.cons_append]
  apply wpS_seq
  apply wpS_region
  simp [wpOpsS,go_sem,recoverD,hu,Exit.thenS]
  refine wpS_of_wp ?_
  go_wp2
  go_region
  go_wp2
  simp [bodyPostS,results,Tryz.results53]
  exact zwu hne h1 h2
def qz0 (x:qm [.d ql,.d zd,.d i64]):Fr (qi [qac,i64]):=
 let h:ql.den:=x.1; let t:zd.den:=x.2.1; let d:Int:=x.2.2.1
 Fr.need (jf h) (Fr.br ((qxv.f (h,d,())).2.1 != 0) (Fr.val ([],(qxv.f (h,d,())).2.1,()))
  (Fr.need (jf (qxv.f (h,d,())).1) (Fr.need (jq t) (Fr.val ((cOf.f ((qxv.f (h,d,())).1,t,())).1,(cOf.f ((qxv.f (h,d,())).1,t,())).2.1,())))))
theorem yih:qa Tryz.prog 56 ⟨[.d ql,.d zd,.d i64],[qac,i64],fun xs=>(qz0 xs).get,fun xs=>[(qz0 xs).ok]⟩:=
 qg ykv (Λ:=qp) (fn:=Tryz.f56) (fr:=qz0) (ps:=[.d ql,.d zd,.d i64]) (rs:=[qac,i64]) (ql.dflt,zd.dflt,0,()) (by kernel_rfl) (fun c E _=>qd c 0) (fun x=>by kernel_rfl)
theorem ym0 (h:ql.den) (t:zd.den) (d:Int) (hf:jf h) (ht:jq t):(qz0 (h,t,d,())).ok/\(qz0 (h,t,d,())).get=((qce h t d).1,(qce h t d).2,()):=by
 refine Fr.need_ hf ?_
 unfold qce
 by_cases h1:(atH h d).2=0
 ·rw [if_pos h1]
  exact Fr.br_f (by show ((atH h d).2 != 0)=false; simp [h1]) (Fr.need_ (ygy hf d) (Fr.need_ ht ⟨trivial,rfl⟩))
 ·rw [if_neg h1]
  exact Fr.br_t (by show ((atH h d).2 != 0)=true; simp [h1]) ⟨trivial,rfl⟩
theorem ym1:qa Tryz.prog 56 qty:=
 vt yih _ _ (fun w F x vs hr hok=>by
  obtain ⟨h,t,d,_⟩:=x
  exact ym0 h t d hok.1 hok.2)
def Er (e:Int):Prop:=0<=e/\e<=20
theorem er0:Er 0:=⟨by decide,by decide⟩
theorem er1:Er 1:=⟨by decide,by decide⟩
theorem er5:Er 5:=⟨by decide,by decide⟩
theorem er6:Er 6:=⟨by decide,by decide⟩
theorem er7:Er 7:=⟨by decide,by decide⟩
theorem ybg (a b c:Int):Er (jx a b c).2:=by
 unfold jx
 split
 ·first | exact er0 | exact er1 | exact er5 | exact er6 | exact er7
 ·split
  ·first | exact er0 | exact er1 | exact er5 | exact er6 | exact er7
  ·split<;>first | exact er0 | exact er1 | exact er5 | exact er6 | exact er7
theorem zov:(l:List Int)->(m:Int)->Er (qb7 l m).2
 |[],_=>er0
 |b :: r,m=>by
  unfold qb7
  split
  ·exact zov r _
  ·exact ybg _ _ _
theorem yi6 (v:qt.den) (r:jj.den) (c:qb.den):Er (qbc v r c).2:=by
 unfold qbc
 split
 ·split
  ·first | exact er0 | exact er1 | exact er5 | exact er6 | exact er7
  ·split
   ·first | exact er0 | exact er1 | exact er5 | exact er6 | exact er7
   ·exact zov _ _
 ·first | exact er0 | exact er1 | exact er5 | exact er6 | exact er7
theorem qwz (v:qt.den) (r:jj.den):(l:List qb.den)->(q:Int)->(b:Bool)->Er (xm v r l q b).2.2
 |[],_,_=>er0
 |c :: l,q,b=>by
  unfold xm
  split
  ·split
   ·split
    ·exact qwz v r l _ _
    ·exact qwz v r l _ _
   ·exact qwz v r l _ _
  ·exact yi6 _ _ _
theorem ye0 (v:qt.den) (r:jj.den) (l:List qb.den):Er (qpn v r l).2:=by
 unfold qpn
 split
 ·split<;>first | exact er0 | exact er1 | exact er5 | exact er6 | exact er7
 ·exact qwz _ _ _ _ _
theorem zcb (v:qt.den):(l:List qk.den)->Er (qaj v l)
 |[]=>er0
 |s :: l=>by
  unfold qaj
  split
  ·split
   ·exact zcb v l
   ·exact ye0 _ _ _
  ·exact zcb v l
theorem zms (d:Int):(l:List qt.den)->Er (ym d l).2
 |[]=>er7
 |v :: r=>by
  unfold ym
  split
  ·first | exact er0 | exact er1 | exact er5 | exact er6 | exact er7
  ·exact zms d r
theorem ynu (h:ql.den) (t:zd.den):Er (ofF h t).2:=by
 unfold ofF
 split
 ·split
  ·split
   ·first | exact er0 | exact er1 | exact er5 | exact er6 | exact er7
   ·exact zcb _ _
  ·exact zms _ _
 ·first | exact er0 | exact er1 | exact er5 | exact er6 | exact er7
theorem zxg (h:ql.den) (t:zd.den) (d:Int):Er (qce h t d).2:=by
 unfold qce
 split
 ·exact ynu _ _
 ·unfold atH
  split<;>first | exact er0 | exact er1 | exact er5 | exact er6 | exact er7
theorem Er.inR {e:Int} (h:Er e):inR .i64 e:=by
 obtain ⟨h1,h2⟩:=h
 have e1:IntKind.i64.min = -9223372036854775808:=by decide
 have e2:IntKind.i64.max=9223372036854775807:=by decide
 unfold Go.Ab.inR
 rw [e1,e2]
 omega
def zvs (c:ju.den):Bool:=qzd c.1 c.2.1 c.2.2.1 c.2.2.2.1 c.2.2.2.2.1 c.2.2.2.2.2.1
def zv1 (l:List qk.den) (c:ju.den):qb.den × Int:=
 if ((atS l c.2.2.2.1).2&&(atS l c.2.2.2.1).1.2.1)=true then
  (if (qaa c.2.2.1 (atS l c.2.2.2.1).1.2.2.2.1).2=true then ((qaa c.2.2.1 (atS l c.2.2.2.1).1.2.2.2.1).1,0) else (qdj,11))
 else (qdj,11)
def qxz (h:ql.den) (t:zd.den) (c:ju.den):qb.den × Int:=
 if zvs c=true then
  (if c.2.2.2.1<=c.2.2.2.2.1 then
   (if c.2.1=h.1 then (if (qce h t c.2.2.2.2.1).2=0 then zv1 (qce h t c.2.2.2.2.1).1 c else (qdj,(qce h t c.2.2.2.2.1).2)) else (qdj,7))
  else (qdj,4))
 else (qdj,1)
def ylt:Ct:=⟨[.d ql,.d zd,.d ju],[qb,i64],fun x=>((qxz x.1 x.2.1 x.2.2.1).1,(qxz x.1 x.2.1 x.2.2.1).2,()),fun x=>[jf x.1,jq x.2.1]⟩
noncomputable def ykm:Cx:=cx [(55,zh2),(56,qty),(57,cAt),(58,zgl)] [(54,qqu)]
theorem zok:CxOK Tryz.prog ykm:=zb qv ⟨zxq,ym1,zl8,yhu,trivial⟩ ⟨zzf,trivial⟩
def unl (b:Bool) (e:Int) (k:Fr (qi [qb,i64])):Fr (qi [qb,i64]):=
 Fr.br (qqu.bad (b,e,())) (Fr.need (inR .i64 (qqu.pv (b,e,())).n) (Fr.val ((0,0,0,0,0,()),(qqu.pv (b,e,())).n,()))) k
def qzx (x:qm [.d ql,.d zd,.d ju]):Fr (qi [qb,i64]):=
 let h:ql.den:=x.1; let t:zd.den:=x.2.1; let c:ju.den:=x.2.2.1
 unl (zh2.f (c,())).1 1 (unl (decide (c.2.2.2.2.1 ≥ c.2.2.2.1)) 4 (unl (c.2.1==h.1) 7 (Fr.need (jf h) (Fr.need (jq t)
  (unl ((qty.f (h,t,c.2.2.2.2.1,())).2.1==0) (qty.f (h,t,c.2.2.2.2.1,())).2.1
   (unl (bif (cAt.f ((qty.f (h,t,c.2.2.2.2.1,())).1,c.2.2.2.1,())).2.1 then (cAt.f ((qty.f (h,t,c.2.2.2.2.1,())).1,c.2.2.2.1,())).1.2.1 else false) 11
    (unl (zgl.f ((cAt.f ((qty.f (h,t,c.2.2.2.2.1,())).1,c.2.2.2.1,())).1.2.2.2.1,c.2.2.1,())).2.1 11
     (Fr.val ((zgl.f ((cAt.f ((qty.f (h,t,c.2.2.2.2.1,())).1,c.2.2.2.1,())).1.2.2.2.1,c.2.2.1,())).1,0,())))))))))
noncomputable def yl7:Code:=(Tryz.f26.body.map fun c=>tlC (tlC c)).getD .skip
theorem yhc:qa Tryz.prog 26 ⟨[.d ql,.d zd,.d ju],[qb,i64],fun xs=>(qzx xs).get,fun xs=>[(qzx xs).ok]⟩:=
 ya9 zok (run:=fun s=>yy Tryz.prog ykm 0 qp yl7 0 s) (T:=117) (k:=.i64) (m:=5) (fn:=Tryz.f26) (A:=hdC (Tryz.f26.body.getD .skip)) (c:=yl7) (rid:=1) (ops:=ztm (hdC (tlC (Tryz.f26.body.getD .skip)))) (td:=12) (ta:=6) (tb:=7) (fr:=qzx) (ps:=[.d ql,.d zd,.d ju]) (rs:=[qb,i64]) (ql.dflt,zd.dflt,ju.dflt,())
  (by kernel_rfl) (by kernel_rfl) (by kernel_rfl) zus (fun E=>qif zok (qd _ 0)) (fun x=>by kernel_rfl)
theorem qww {b:Bool} {e:Int} {k:Fr (qi [qb,i64])} {y:qi [qb,i64]} (hb:b=true) (hk:k.ok/\k.get=y):(unl b e k).ok/\(unl b e k).get=y:=Fr.br_f (by show (!b)=false; rw [hb]; rfl) hk
theorem qwv {b:Bool} {e:Int} {k:Fr (qi [qb,i64])} (hb:b=false) (he:inR .i64 e):(unl b e k).ok/\(unl b e k).get=(qdj,e,()):=Fr.br_t (by show (!b)=true; rw [hb]; rfl) (Fr.need_ he ⟨trivial,rfl⟩)
theorem yl8 (h:ql.den) (t:zd.den) (c:ju.den) (hf:jf h) (ht:jq t):(qzx (h,t,c,())).ok/\(qzx (h,t,c,())).get=((qxz h t c).1,(qxz h t c).2,()):=by
 unfold qxz
 by_cases h1:zvs c=true
 ·rw [if_pos h1]
  refine qww h1 ?_
  by_cases h2:c.2.2.2.1<=c.2.2.2.2.1
  ·rw [if_pos h2]
   refine qww (by simpa using h2) ?_
   by_cases h3:c.2.1=h.1
   ·rw [if_pos h3]
    refine qww (by simpa using h3) (Fr.need_ hf (Fr.need_ ht ?_))
    by_cases h4:(qce h t c.2.2.2.2.1).2=0
    ·rw [if_pos h4]
     refine qww (by show ((qce h t c.2.2.2.2.1).2==0)=true; simpa using h4) ?_
     unfold zv1
     by_cases h5:((atS (qce h t c.2.2.2.2.1).1 c.2.2.2.1).2&&(atS (qce h t c.2.2.2.2.1).1 c.2.2.2.1).1.2.1)=true
     ·rw [if_pos h5]
      refine qww ((qd8 _ _).trans h5) ?_
      by_cases h6:(qaa c.2.2.1 (atS (qce h t c.2.2.2.2.1).1 c.2.2.2.1).1.2.2.2.1).2=true
      ·rw [if_pos h6]
       exact qww h6 ⟨trivial,rfl⟩
      ·rw [if_neg h6]
       exact qwv (Bool.eq_false_iff.2 h6) ⟨by decide,by decide⟩
     ·rw [if_neg h5]
      exact qwv ((qd8 _ _).trans (Bool.eq_false_iff.2 h5)) ⟨by decide,by decide⟩
    ·rw [if_neg h4]
     exact qwv (by show ((qce h t c.2.2.2.2.1).2==0)=false; simpa using h4) (zxg h t _).inR
   ·rw [if_neg h3]
    exact qwv (by simpa using h3) ⟨by decide,by decide⟩
  ·rw [if_neg h2]
   exact qwv (by simpa using h2) ⟨by decide,by decide⟩
 ·rw [if_neg h1]
  exact qwv (Bool.eq_false_iff.2 h1) ⟨by decide,by decide⟩
theorem yl9:qa Tryz.prog 26 ylt:=
 vt yhc _ _ (fun w F x vs hr hok=>by
  obtain ⟨h,t,c,_⟩:=x
  exact yl8 h t c hok.1 hok.2)
noncomputable def yqt:Cx:=cx [(145,qxu),(98,qhe),(259,qy8)] []
theorem ygj:CxOK Tryz.prog yqt:=zb (cs:=[(145,qxu),(98,qhe),(259,qy8)]) (ps:=[]) qv ⟨zv6,qvp,zpu,trivial⟩ trivial
def zjb (x:qm [.d i64,.d i64,.d zo]):Fr (qi [ql,i64]):=
 Fr.br (bif bif bif decide (x.1 < 1) then true else decide (x.1 > 1000000000) then true else !(qxu.f (x.2.1,())).1 then true else !(qhe.f (x.2.2.1,())).1) (Fr.val ((0,0,((0,0,()),(0,0,0,0,()),[],()),[],()),1,())) (Fr.need (List.length x.2.2.1.2.2.1<=1000000) (Fr.val ((x.1,x.2.1,(qy8.f (x.2.2.1,())).1,[],()),0,())))
theorem zm9:qa Tryz.prog 256 ⟨[.d i64,.d i64,.d zo],[ql,i64],fun xs=>(zjb xs).get,fun xs=>[(zjb xs).ok]⟩:=
 qg ygj (Λ:=qp) (fn:=Tryz.f256) (dfP [.d i64,.d i64,.d zo]) (by kernel_rfl) (fun c E _=>qd c 0) (fun x=>by kernel_rfl)
def qqk (id bk:Int) (t:zo.den):Bool:=bif bif bif decide (id < 1) then true else decide (id > 1000000000) then true else !(qc1 bk) then true else !(qeo t)
def qol (id bk:Int) (t:zo.den):ql.den × Int:=bif qqk id bk t then (h00,1) else ((id,bk,t,[],()),0)
def zvi:Ct:=⟨[.d i64,.d i64,.d zo],[ql,i64],fun x=>((qol x.1 x.2.1 x.2.2.1).1,(qol x.1 x.2.1 x.2.2.1).2,()),fun _=>[]⟩
theorem qtp {t:zo.den} (h:qeo t=true):t.2.2.1.length<=1000000:=by
 unfold qeo at h
 rw [Bool.and_eq_true,Bool.and_eq_true,Bool.and_eq_true] at h
 have hc:qb5 t.2.2.1=true:=h.2.2.2
 unfold qb5 at hc
 rw [Bool.and_eq_true] at hc
 have:=of_decide_eq_true hc.1
 exact Nat.le_trans this.2 (by decide)
theorem qth {id bk:Int} {t:zo.den} (h:qqk id bk t=false):qeo t=true:=by
 unfold qqk at h
 cases ht:qeo t
 ·rw [ht] at h
  cases h1:(bif bif decide (id < 1) then true else decide (id > 1000000000) then true else !(qc1 bk))<;>rw [h1] at h<;>cases h
 ·rfl
theorem yal:qa Tryz.prog 256 zvi:=conv zm9 _ _ (fun _ _ x _ _ _=>by
 obtain ⟨id,bk,t,_⟩:=x
 show _/\_=((qol id bk t).1,(qol id bk t).2,())
 unfold qol
 cases h:qqk id bk t
 ·exact Fr.br_f h (Fr.need_ (qtp (qth h)) ⟨trivial,rfl⟩)
 ·exact Fr.br_t h ⟨trivial,rfl⟩)
theorem zhw (id bk:Int) (t:zo.den):jf (qol id bk t).1:=by
 unfold qol
 cases h:qqk id bk t
 ·exact ⟨by show 0<=500000; omega,qtp (qth h),fun c hc=>by cases hc⟩
 ·have z:jf h00:=⟨by decide,by decide,fun c hc=>by cases hc⟩
  exact z
def zqy:Ct:=⟨[.d ze],[i64],fun x=>(aId x.1,()),fun _=>[]⟩
def zq2:Ct:=⟨[.d qr],[i64],fun x=>(gId x.1,()),fun _=>[]⟩
def zbx (f:factT.den) (g:qr.den):Bool:=bif g.1.2.1==fId f then decide (g.1.2.2.2.2.1 ≥ zj f) else false
def zqx:Ct:=⟨[.d qr,.ptr factT],[.bool],fun x=>(zbx x.2.1 x.1,()),fun _=>[]⟩
theorem ylo:qa Tryz.prog 258 zqy:=
 conv (qg xf (Λ:=qp) (fn:=Tryz.f258) (fr:=fun x=>Fr.val (aId x.1,())) (ps:=zqy.ps) (rs:=[i64]) (dfP zqy.ps) (by kernel_rfl) (fun c E _=>qd c 0) (fun x=>by kernel_rfl)) _ _ (fun _ _ _ _ _ _=>⟨trivial,rfl⟩)
theorem ynp:qa Tryz.prog 276 zq2:=
 conv (qg xf (Λ:=qp) (fn:=Tryz.f276) (fr:=fun x=>Fr.val (gId x.1,())) (ps:=zq2.ps) (rs:=[i64]) (dfP zq2.ps) (by kernel_rfl) (fun c E _=>qd c 0) (fun x=>by kernel_rfl)) _ _ (fun _ _ _ _ _ _=>⟨trivial,rfl⟩)
theorem ylk:qa Tryz.prog 269 zqx:=
 conv (qg xf (Λ:=qp) (fn:=Tryz.f269) (fr:=fun x=>Fr.val (zbx x.2.1 x.1,())) (ps:=zqx.ps) (rs:=[.bool]) (dfP zqx.ps) (by kernel_rfl) (fun c E _=>qd c 0) (fun x=>by kernel_rfl)) _ _ (fun _ _ _ _ _ _=>⟨trivial,rfl⟩)
noncomputable def yqq:Cx:=cx [(307,qy9),(43,cIn)] []
theorem ygg:CxOK Tryz.prog yqq:=zb (cs:=[(307,qy9),(43,cIn)]) (ps:=[]) qv ⟨yjb,qnu,trivial⟩ trivial
noncomputable def zqg:Cx:=cx [] []
theorem qj1:CxOK Tryz.prog zqg:=zb (cs:=[]) (ps:=[]) qv trivial trivial
abbrev qdk:Pt:=⟨28,2,⟨[(14,.d i64),(13,.d i64),(12,.d (.sl qf)),(6,.d i64),(1,.d i64),(5,.d i64),(9,.d i64),(0,.d (.sl qf))],[]⟩,⟨[(6,.d i64),(1,.d i64),(9,.d i64),(0,.d (.sl qf))],[]⟩,⟨[],[]⟩⟩
def zpb (x:qdk.M.X):Fr qdk.Out:=
 Fr.br (decide (x.1.1 < x.1.2.1)) (Fr.need (0<=x.1.1/\x.1.1 < ((List.length x.1.2.2.1):Int)) (Fr.need (¬x.1.2.2.2.2.2.1 < 0) (Fr.val (Rd.next ((IntKind.i64.wrap (x.1.1+1),x.1.2.1,x.1.2.2.1,IntKind.i64.wrap (x.1.2.2.2.1+(qy9.f ((List.getD x.1.2.2.1 (Int.toNat x.1.1) qf.dflt),x.1.2.2.2.2.1,x.1.2.2.2.2.2.1,())).1),x.1.2.2.2.2.1,x.1.2.2.2.2.2.1,x.1.2.2.2.2.2.2.1,x.1.2.2.2.2.2.2.2.1,()),()))))) (Fr.val (Rd.out ((x.1.2.2.2.1,x.1.2.2.2.2.1,x.1.2.2.2.2.2.2.1,x.1.2.2.2.2.2.2.2.1,()),())))
noncomputable def qsh:Code:=((ko (qo Tryz.f303 0) 0).getD .skip)
theorem yd1:qe Tryz.prog qsh qdk.M qdk zpb:=
 qe.of_run ygg (bs:=0) (Λ:=qp) rfl rfl rfl (fun E=>qd _ 0) (fun x=>by kernel_rfl)
abbrev qws:Type:=qm [.d i64,.d i64,.d i64,.d i64,.d (.sl qf)] × jc []
def qbw (e:qf.den) (s:qws):Fr qws:=
 Fr.need (¬s.1.2.2.1 < 0) (Fr.val ((IntKind.i64.wrap (s.1.1+(qy9.f (e,s.1.2.1,s.1.2.2.1,())).1),s.1.2.1,s.1.2.2.1,s.1.2.2.2.1,s.1.2.2.2.2.1,()),()))
def qri (x:qdk.M.X):Int × List qf.den × qws:=(x.1.1,x.1.2.2.1,x.1.2.2.2,x.2)
def qo4 (x:qdk.M.X):Prop:=x.1.2.1=(x.1.2.2.1.length:Int)
def qyp (s:qws):qdk.E.X:=((s.1.1,s.1.2.1,s.1.2.2.2.1,s.1.2.2.2.2.1,()),())
theorem zxk:qe Tryz.prog (.loop qsh) qdk.M qdk (FF qbw qri qo4 qyp):=by
 refine qe.fold yd1 qbw qri qo4 qyp ?_ ?_
 ·rintro ⟨⟨i,n,l,s⟩,m⟩ hg h0 h1 hb e he Q h
  have hg:n=(l.length:Int):=hg
  subst hg
  have h0:0<=i:=h0
  have h1:i < (l.length:Int):=h1
  have hb:(l.length:Int)<=9223372036854775807:=hb
  have hd:l.getD i.toNat qf.dflt=e:=zr he
  have hw:=zx h0 h1 hb
  dsimp only [qri,qbw,zpb,Fr.satP] at h ⊢
  simp only [hd,hw] at h ⊢
  refine ⟨fun _=>?_,fun hn=>absurd h1 (of_decide_eq_false hn)⟩
  repeat' first
   |exact h
   |exact ⟨h0,h1⟩
   |exact fun _=>⟨h0,h1⟩
   |exact h _ rfl rfl
   |(refine ⟨fun hc=>?_,fun hc=>?_⟩<;>first | replace h:=h.1 hc | replace h:=h.2 hc)
   |(refine ⟨h.1,?_⟩; replace h:=h.2)
   |refine ⟨⟨h0,h1⟩,?_⟩
   |exact h.1
   |exact h.2.1
   |exact h.2.2.1
   |refine ⟨?_,?_⟩
   |(intro (hc:_=true); replace h:=h.1 hc)
   |(intro (hc:_=false); replace h:=h.2 hc)
   |(replace h:=h.2)
 ·rintro ⟨⟨i,n,l,s⟩,m⟩ hg h1 Q h
  have hg:n=(l.length:Int):=hg
  subst hg
  exact ⟨fun hn=>absurd (of_decide_eq_true hn) h1,fun _=>h⟩
def yoy (Γ:Gm):St->Option Tr:=qdk.han Γ qdk.M (FF qbw qri qo4 qyp)
abbrev qb9:Pt:=⟨33,0,⟨[(15,.d i64),(14,.d i64),(13,.d (.sl qf))],[.x 3 44 qf,.r 3 3 0,.y 5 27 [(some 44,qf)],.r 5 5 0]⟩,⟨[],[.x 3 44 qf,.r 3 3 0,.y 5 27 [(some 44,qf)],.r 5 5 0]⟩,⟨[],[]⟩⟩
def zka (x:qb9.M.X):Fr qb9.Out:=
 Fr.br (decide (x.1.1 < x.1.2.1)) (Fr.need (0<=x.1.1/\x.1.1 < ((List.length x.1.2.2.1):Int)) (Fr.need (x.2.2.1.1.length + [((List.getD x.1.2.2.1 (Int.toNat x.1.1) qf.dflt).1,(List.getD x.1.2.2.1 (Int.toNat x.1.1) qf.dflt).2.1,(List.getD x.1.2.2.1 (Int.toNat x.1.1) qf.dflt).2.2.1,(List.getD x.1.2.2.1 (Int.toNat x.1.1) qf.dflt).2.2.2.1,(List.getD x.1.2.2.1 (Int.toNat x.1.1) qf.dflt).2.2.2.2.1,(List.getD x.1.2.2.1 (Int.toNat x.1.1) qf.dflt).2.2.2.2.2.1,(List.getD x.1.2.2.1 (Int.toNat x.1.1) qf.dflt).2.2.2.2.2.2.1,IntKind.i64.wrap ((BitVec.ofInt IntKind.i64.bits (List.getD x.1.2.2.1 (Int.toNat x.1.1) qf.dflt).2.2.2.2.2.2.2.1 &&& BitVec.ofInt IntKind.i64.bits x.2.1.2.2.2.2.2.2.2.1).toNat:Int),())].length<=maxLen/\(x.2.2.1.1.length + [((List.getD x.1.2.2.1 (Int.toNat x.1.1) qf.dflt).1,(List.getD x.1.2.2.1 (Int.toNat x.1.1) qf.dflt).2.1,(List.getD x.1.2.2.1 (Int.toNat x.1.1) qf.dflt).2.2.1,(List.getD x.1.2.2.1 (Int.toNat x.1.1) qf.dflt).2.2.2.1,(List.getD x.1.2.2.1 (Int.toNat x.1.1) qf.dflt).2.2.2.2.1,(List.getD x.1.2.2.1 (Int.toNat x.1.1) qf.dflt).2.2.2.2.2.1,(List.getD x.1.2.2.1 (Int.toNat x.1.1) qf.dflt).2.2.2.2.2.2.1,IntKind.i64.wrap ((BitVec.ofInt IntKind.i64.bits (List.getD x.1.2.2.1 (Int.toNat x.1.1) qf.dflt).2.2.2.2.2.2.2.1 &&& BitVec.ofInt IntKind.i64.bits x.2.1.2.2.2.2.2.2.2.1).toNat:Int),())].length) * 72<=140737488355328) (Fr.val (Rd.next ((IntKind.i64.wrap (x.1.1+1),x.1.2.1,x.1.2.2.1,()),x.2.1,(x.2.2.1.1++[((List.getD x.1.2.2.1 (Int.toNat x.1.1) qf.dflt).1,(List.getD x.1.2.2.1 (Int.toNat x.1.1) qf.dflt).2.1,(List.getD x.1.2.2.1 (Int.toNat x.1.1) qf.dflt).2.2.1,(List.getD x.1.2.2.1 (Int.toNat x.1.1) qf.dflt).2.2.2.1,(List.getD x.1.2.2.1 (Int.toNat x.1.1) qf.dflt).2.2.2.2.1,(List.getD x.1.2.2.1 (Int.toNat x.1.1) qf.dflt).2.2.2.2.2.1,(List.getD x.1.2.2.1 (Int.toNat x.1.1) qf.dflt).2.2.2.2.2.2.1,IntKind.i64.wrap ((BitVec.ofInt IntKind.i64.bits (List.getD x.1.2.2.1 (Int.toNat x.1.1) qf.dflt).2.2.2.2.2.2.2.1 &&& BitVec.ofInt IntKind.i64.bits x.2.1.2.2.2.2.2.2.2.1).toNat:Int),())],()),()))))) (Fr.val (Rd.out ((),x.2.1,(x.2.2.1.1,()),())))
theorem zyx:qe Tryz.prog (qo Tryz.f299 0) qb9.M qb9 zka:=
 qe.of_run qj1 (bs:=0) (Λ:=qp) rfl rfl rfl (fun E=>qd _ 0) (fun x=>by kernel_rfl)
abbrev qob:Type:=qm [] × jc [.x 3 44 qf,.r 3 3 0,.y 5 27 [(some 44,qf)],.r 5 5 0]
def qcn (e:qf.den) (s:qob):Fr qob:=
 Fr.need (s.2.2.1.1.length + [(e.1,e.2.1,e.2.2.1,e.2.2.2.1,e.2.2.2.2.1,e.2.2.2.2.2.1,e.2.2.2.2.2.2.1,IntKind.i64.wrap ((BitVec.ofInt IntKind.i64.bits e.2.2.2.2.2.2.2.1 &&& BitVec.ofInt IntKind.i64.bits s.2.1.2.2.2.2.2.2.2.1).toNat:Int),())].length<=maxLen/\(s.2.2.1.1.length + [(e.1,e.2.1,e.2.2.1,e.2.2.2.1,e.2.2.2.2.1,e.2.2.2.2.2.1,e.2.2.2.2.2.2.1,IntKind.i64.wrap ((BitVec.ofInt IntKind.i64.bits e.2.2.2.2.2.2.2.1 &&& BitVec.ofInt IntKind.i64.bits s.2.1.2.2.2.2.2.2.2.1).toNat:Int),())].length) * 72<=140737488355328) (Fr.val ((),s.2.1,(s.2.2.1.1++[(e.1,e.2.1,e.2.2.1,e.2.2.2.1,e.2.2.2.2.1,e.2.2.2.2.2.1,e.2.2.2.2.2.2.1,IntKind.i64.wrap ((BitVec.ofInt IntKind.i64.bits e.2.2.2.2.2.2.2.1 &&& BitVec.ofInt IntKind.i64.bits s.2.1.2.2.2.2.2.2.2.1).toNat:Int),())],()),()))
def qof (x:qb9.M.X):Int × List qf.den × qob:=(x.1.1,x.1.2.2.1,x.1.2.2.2,x.2)
def qmo (x:qb9.M.X):Prop:=x.1.2.1=(x.1.2.2.1.length:Int)
def qu0 (s:qob):qb9.E.X:=((),s.2.1,(s.2.2.1.1,()),())
theorem zs7:qe Tryz.prog (.loop (qo Tryz.f299 0)) qb9.M qb9 (FF qcn qof qmo qu0):=by
 refine qe.fold zyx qcn qof qmo qu0 ?_ ?_
 ·rintro ⟨⟨i,n,l,s⟩,m⟩ hg h0 h1 hb e he Q h
  have hg:n=(l.length:Int):=hg
  subst hg
  have h0:0<=i:=h0
  have h1:i < (l.length:Int):=h1
  have hb:(l.length:Int)<=9223372036854775807:=hb
  have hd:l.getD i.toNat qf.dflt=e:=zr he
  have hw:=zx h0 h1 hb
  dsimp only [qof,qcn,zka,Fr.satP] at h ⊢
  simp only [hd,hw] at h ⊢
  refine ⟨fun _=>?_,fun hn=>absurd h1 (of_decide_eq_false hn)⟩
  repeat' first
   |exact h
   |exact ⟨h0,h1⟩
   |exact fun _=>⟨h0,h1⟩
   |exact h _ rfl rfl
   |(refine ⟨fun hc=>?_,fun hc=>?_⟩<;>first | replace h:=h.1 hc | replace h:=h.2 hc)
   |(refine ⟨h.1,?_⟩; replace h:=h.2)
   |refine ⟨⟨h0,h1⟩,?_⟩
   |exact h.1
   |exact h.2.1
   |exact h.2.2.1
   |refine ⟨?_,?_⟩
   |(intro (hc:_=true); replace h:=h.1 hc)
   |(intro (hc:_=false); replace h:=h.2 hc)
   |(replace h:=h.2)
 ·rintro ⟨⟨i,n,l,s⟩,m⟩ hg h1 Q h
  have hg:n=(l.length:Int):=hg
  subst hg
  exact ⟨fun hn=>absurd (of_decide_eq_true hn) h1,fun _=>h⟩
def yki (Γ:Gm):St->Option Tr:=qb9.han Γ qb9.M (FF qcn qof qmo qu0)
abbrev xx:Pt:=⟨22,0,⟨[(9,.d i64),(8,.d i64),(7,.d (.sl factT)),(3,.d i64)],[]⟩,⟨[(3,.d i64)],[]⟩,⟨[],[]⟩⟩
def zd8 (x:xx.M.X):Fr xx.Out:=
 Fr.br (decide (x.1.1 < x.1.2.1)) (Fr.need (0<=x.1.1/\x.1.1 < ((List.length x.1.2.2.1):Int)) (Fr.br ((List.getD x.1.2.2.1 (Int.toNat x.1.1) factT.dflt).2.1==7) (Fr.val (Rd.next ((IntKind.i64.wrap (x.1.1+1),x.1.2.1,x.1.2.2.1,if x.1.2.2.2.1 < (List.getD x.1.2.2.1 (Int.toNat x.1.1) factT.dflt).2.2.2.2.1 then (List.getD x.1.2.2.1 (Int.toNat x.1.1) factT.dflt).2.2.2.2.1 else x.1.2.2.2.1,()),()))) (Fr.val (Rd.next ((IntKind.i64.wrap (x.1.1+1),x.1.2.1,x.1.2.2.1,x.1.2.2.2.1,()),()))))) (Fr.val (Rd.out ((x.1.2.2.2.1,()),())))
theorem zue:qe Tryz.prog (qo Tryz.f88 0) xx.M xx zd8:=
 qe.of_run qj1 (bs:=0) (Λ:=qp) rfl rfl rfl (fun E=>qd _ 0) (fun x=>by kernel_rfl)
abbrev qlw:Type:=qm [.d i64] × jc []
def ve (e:factT.den) (s:qlw):Fr qlw:=
 Fr.br (e.2.1==7) (Fr.val ((if s.1.1 < e.2.2.2.2.1 then e.2.2.2.2.1 else s.1.1,()),())) (Fr.val ((s.1.1,()),()))
def qbx (x:xx.M.X):Int × List factT.den × qlw:=(x.1.1,x.1.2.2.1,x.1.2.2.2,x.2)
def qkv (x:xx.M.X):Prop:=x.1.2.1=(x.1.2.2.1.length:Int)
def qmt (s:qlw):xx.E.X:=((s.1.1,()),())
theorem znt:qe Tryz.prog (.loop (qo Tryz.f88 0)) xx.M xx (FF ve qbx qkv qmt):=by
 refine qe.fold zue ve qbx qkv qmt ?_ ?_
 ·rintro ⟨⟨i,n,l,s⟩,m⟩ hg h0 h1 hb e he Q h
  have hg:n=(l.length:Int):=hg
  subst hg
  have h0:0<=i:=h0
  have h1:i < (l.length:Int):=h1
  have hb:(l.length:Int)<=9223372036854775807:=hb
  have hd:l.getD i.toNat factT.dflt=e:=zr he
  have hw:=zx h0 h1 hb
  dsimp only [qbx,ve,zd8,Fr.satP] at h ⊢
  simp only [hd,hw] at h ⊢
  refine ⟨fun _=>?_,fun hn=>absurd h1 (of_decide_eq_false hn)⟩
  repeat' first
   |exact h
   |exact ⟨h0,h1⟩
   |exact fun _=>⟨h0,h1⟩
   |exact h _ rfl rfl
   |(refine ⟨fun hc=>?_,fun hc=>?_⟩<;>first | replace h:=h.1 hc | replace h:=h.2 hc)
   |(refine ⟨h.1,?_⟩; replace h:=h.2)
   |refine ⟨⟨h0,h1⟩,?_⟩
   |exact h.1
   |exact h.2.1
   |exact h.2.2.1
   |refine ⟨?_,?_⟩
   |(intro (hc:_=true); replace h:=h.1 hc)
   |(intro (hc:_=false); replace h:=h.2 hc)
   |(replace h:=h.2)
 ·rintro ⟨⟨i,n,l,s⟩,m⟩ hg h1 Q h
  have hg:n=(l.length:Int):=hg
  subst hg
  exact ⟨fun hn=>absurd (of_decide_eq_true hn) h1,fun _=>h⟩
def ye3 (Γ:Gm):St->Option Tr:=xx.han Γ xx.M (FF ve qbx qkv qmt)
def zty (y:xx.M.X):qlw:=goF ve ((qbx y).2.1.drop (qbx y).1.toNat) (qbx y).2.2
def ztd (y:xx.M.X):Prop:=okF ve ((qbx y).2.1.drop (qbx y).1.toNat) (qbx y).2.2
end Go.Proofs.YtgieagiaagoogaaGreat
