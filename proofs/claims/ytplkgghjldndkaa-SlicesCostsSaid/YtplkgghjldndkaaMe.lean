/-
  Parts of the proof, one behind the other: N21, N22, I1, I2, I3, I4, I5, I6, I7, I8, I9, I10, I11, I28, I14, I16, I17, I18, I19, I20, I21, I22, I23, I12.
-/
import Derived.Test.YtplkgghjldndkaaMd
import Derived.Lib.Overlaps
import Derived.Lib.AppendZerosOnto
import Derived.Laws.NewBlocks
import Derived.Deep.RegionLaw
import Derived.Defers
import Derived.MapKept
import Derived.Carry
import Derived.WalkKit
namespace Go.Proofs.Ytplkgghjldndkaa
open Go Go.Ab Go.RowKit Go.Proofs Go.Shelf Go.Lib
set_option maxRecDepth 100000 in
theorem verInfo : (Try.prog.info? 62).map (fun i => (i.zero, i.size, i.bytes)) = some (some (.agg #[.int .i64 0, .int .i64 0, .int .i64 0, .int .i64 0, .int .i64 0, .slice none 0 0, .slice none 0 0, .slice none 0 0, .int .i64 0]), 9, 120) := by kernel_rfl
set_option maxHeartbeats 4000000 in
set_option maxRecDepth 100000 in
theorem insV_end (w : World) (B n : Nat) (s v : Value) (xs news : List Value) (hB : B <= w.heap.size) (hs : w.ownsRow B 62 9 s n xs) (hv : w.ownsRow B 62 9 v 1 news) (h1 : ∀ u ∈ news, u.oneCell' = true) (h63 : n + 1 <= maxLen) (hby : (n + 1) * 120 <= 140737488355328) :
  Calls Try.prog 55 #[s, .int .i64 n, v] w fun en w' => ∃ v', en = .returned v' /\ w.grownBy w' s.ownBlock /\ w'.ownsRow B 62 9 v' (n + 1) (xs ++ news) /\ (v'.ownBlock = s.ownBlock ∨ v'.ownBlock = some w.heap.size) := by
 obtain ⟨i0, hi0, hz0, hz1, hz2⟩ := info_parts verInfo
 obtain ⟨vb, vc, vcur, rfl, hvb, hvg, hv1, hv2, hv3, hv4⟩ : ∃ g cap cur, v = .slice (some ⟨g, 0, none⟩) 1 cap /\ B <= g /\ w.heap[g]? = some (.cells cur 62 (0, 0)) /\ 1 <= cap /\ cap <= maxLen /\ cur.size = cap * 9 /\ cur.toList.take (1 * 9) = news := by
  rcases hv.2 with ⟨_, h0⟩ | h'
  ·exact absurd h0 (by omega)
  ·exact h'
 obtain ⟨v', w', hr, e2, e3, e4⟩ := append_own (P := Try.prog) (w := w) (B := B) 36 36 62 i0 _ 9 Try.underlying36 hi0 hz0 hz1 rfl (by decide) s n xs hs (some ⟨vb, 0, none⟩) 1 vc news (fun h => by cases h) hv.1 (fun ad e => by cases e; exact hv.cells rfl) h1 h63 (by rw [hz2]; exact hby) hB
 have hr' : ∀ ty, (Builtin.append_ #[36, 36] ty #[s, .slice (some ⟨vb, 0, none⟩) 1 vc]).run Try.prog w = .ok v' w' := fun ty => hr
 have hn : (n : Int) <= 9223372036854775807 := by unfold maxLen at h63; omega
 clear hr
 go_enter Try.func55, Try.ntmps55
 rcases hs.2 with ⟨rfl, rfl⟩ | ⟨g, cap, cur, rfl, hbg, hg, hnc, hcm, hcs, htake⟩
 ·go_wp2_with (at_builtin; refine Lib.wpList_append_run _ rfl _ _ _ _ rfl _ _ rfl rfl _ _ (hr' _) ?_)
  go_ret
  exact ⟨_, rfl, e3, e2, e4⟩
 ·go_wp2_with (at_builtin; refine Lib.wpList_append_run _ rfl _ _ _ _ rfl _ _ rfl rfl _ _ (hr' _) ?_)
  all_goals (go_ret; exact ⟨_, rfl, e3, e2, e4⟩)
set_option maxHeartbeats 4000000 in
set_option maxRecDepth 100000 in
theorem insV_shift (w : World) (n i g cap vb vc : Nat) (cur : Array Value) (xs news : List Value) (hi : i < n) (hg : w.heap[g]? = some (.cells cur 62 (0, 0))) (hcs : cur.size = cap * 9) (hroom : n + 1 <= cap) (hcm : cap <= maxLen) (htake : cur.toList.take (n * 9) = xs)
  (vcur : Array Value) (hvg : w.heap[vb]? = some (.cells vcur 62 (0, 0))) (hne : vb ≠ g) (hnl : news.length = 9) (hvt : vcur.toList.take 9 = news) (hvc : 1 <= vc) (hvs : vcur.size = vc * 9) (h1x : ∀ u ∈ xs, u.oneCell' = true) (h1 : ∀ u ∈ news, u.oneCell' = true) :
  Calls Try.prog 55 #[.slice (some ⟨g, 0, none⟩) n cap, .int .i64 i, .slice (some ⟨vb, 0, none⟩) 1 vc] w fun en w' => ∃ cur', en = .returned (.slice (some ⟨g, 0, none⟩) (n + 1) cap) /\ w' = w.drew.setRow g cur' /\ cur'.size = cur.size /\ cur'.toList.take ((n + 1) * 9) = xs.take (i * 9) ++ news ++ xs.drop (i * 9) := by
 have hc63 : cap <= 9223372036854775807 := by unfold maxLen at hcm; omega
 have hz2 : ¬ ((i : Int) = (n : Int)) := by omega
 have hw1 : IntKind.i64.wrap ((i : Int) + (1 : Int)) = (i : Int) + (1 : Int) := by rw [IntKind.wrap_i64]; omega
 have hb1 : (0 : Int) <= (i : Int) + (1 : Int) := by omega
 have htn : ((i : Int) + (1 : Int)).toNat = i + 1 := by omega
 have hin : i <= n := by omega
 have hb2 : ¬ (cap = i + 1) := by omega
 have hb3 : (i : Int) <= (n : Int) + (1 : Int) := by omega
 have hb4 : ¬ (cap = i) := by omega
 have hov : ∀ lb cb, (callFunc 85 #[.slice (some ⟨vb, 0, none⟩) 1 vc, .slice (some ⟨g, (i + 1) * 9, none⟩) lb cb]).run Try.prog w = .ok (.value (.bool false)) w := fun lb cb => by
  rw [run_callFunc_extern Try.func85 (by kernel_rfl) (by kernel_rfl) (by kernel_rfl) (e := Extern.SlicesOverlaps.overlaps #[36, 36] #[4]) (by kernel_rfl),
   Lib.run_overlaps_apart w 36 4 62 Try.underlying36 9 (fun w => by kernel_rfl) ⟨vb, 0, none⟩ ⟨g, (i + 1) * 9, none⟩ 1 vc lb cb hne 62 62 vcur.size cur.size (by simp [World.shape?, hvg]) (by simp [World.shape?, hg]) (by omega) (by simp [World.frozen?, hvg]) (by simp [World.frozen?, hvg])]
  rfl
 have hsz : (Try.prog.info? 62).map (·.size) = some 9 := by kernel_rfl
 have hxl : xs.length = n * 9 := by rw [← htake, List.length_take, Array.length_toList]; omega
 have hdl : (xs.drop (i * 9)).length = (n - i) * 9 := by rw [List.length_drop, hxl]; omega
 obtain ⟨C1, hC1⟩ : ∃ C1 : Array Value, C1 = (cur.toList.take ((i + 1) * 9) ++ xs.drop (i * 9) ++ cur.toList.drop ((i + 1) * 9 + (xs.drop (i * 9)).length)).toArray := ⟨_, rfl⟩
 obtain ⟨C2, hC2⟩ : ∃ C2 : Array Value, C2 = (C1.toList.take (i * 9) ++ news ++ C1.toList.drop (i * 9 + news.length)).toArray := ⟨_, rfl⟩
 obtain ⟨k1, k2, k3⟩ := ins_shift cur.toList xs news (n * 9) (i * 9) 9 htake (by simp only [Array.length_toList]; omega) (by omega) hnl C1.toList C2.toList (by rw [hC1]; simp only [show i * 9 + 9 = (i + 1) * 9 by omega]) (by rw [hC2])
 have hcp1 : ∀ ty dc sc, (Builtin.copy_ #[36, 36] ty #[.slice (some ⟨g, (i + 1) * 9, none⟩) (n - i) dc, .slice (some ⟨g, i * 9, none⟩) (n + 1 - i) sc]).run Try.prog w.drew = .ok (goInt (Nat.min (n + 1 - i) (n - i))) (w.drew.setRow g C1) := fun ty dc sc => by
  rw [hC1]
  exact run_copy_rows w.drew _ _ ty 62 9 g ((i + 1) * 9) (n - i) dc ⟨g, i * 9, none⟩ (n + 1 - i) sc (xs.drop (i * 9)) cur 62 Try.underlying36 hsz (by rw [hdl, show Nat.min (n + 1 - i) (n - i) = n - i from Nat.min_eq_right (by omega)])
   (fun j v hj => by rw [Addr.add_lit]; exact cell_take (w := w) hg htake (by rwa [List.getElem?_drop] at hj)) hg (by rw [hdl]; omega) (fun v hv => h1x v (List.mem_of_mem_drop hv))
 have hcp2 : ∀ ty dc, (Builtin.copy_ #[36, 36] ty #[.slice (some ⟨g, i * 9, none⟩) (n + 1 - i) dc, .slice (some ⟨vb, 0, none⟩) 1 vc]).run Try.prog (w.drew.setRow g C1) = .ok (goInt (Nat.min 1 (n + 1 - i))) ((w.drew.setRow g C1).setRow g C2) := fun ty dc => by
  rw [hC2]
  exact run_copy_rows (w.drew.setRow g C1) _ _ ty 62 9 g (i * 9) (n + 1 - i) dc ⟨vb, 0, none⟩ 1 vc news C1 62 Try.underlying36 hsz (by rw [hnl, show Nat.min 1 (n + 1 - i) = 1 from Nat.min_eq_left (by omega)])
   (fun j v hj => by
    rw [Addr.add_lit, Nat.zero_add]
    exact cell_take (q := 9) ((setRow_other w.drew g vb C1 hne).trans hvg) hvt hj) (setRow_heap w.drew g cur C1 _ _ hg) (by rw [hnl, ← Array.length_toList, k1, Array.length_toList]; omega) h1
 rw [setRow_setRow] at hcp2
 have h1u := h1
 clear hC1 hC2
 go_enter Try.func55, Try.ntmps55
 go_wp2_with (simp only [hov])
 go_region_law (refine step_copy_is rfl _ _ 36 36 rfl _ _ (by simp [Act.eval, Act.put]) (by simp [Act.eval, Act.put]) (hcp1 _ _ _) ?_)
 go_wp2_with (at_builtin; refine wpList_copy_is _ rfl _ _ 36 36 rfl _ _ rfl rfl (hcp2 _ _) ?_)
 go_ret
 exact ⟨C2, rfl, rfl, by rw [← Array.length_toList, k2, Array.length_toList], by rw [show (n + 1) * 9 = n * 9 + 9 by omega]; exact k3⟩
set_option maxHeartbeats 4000000 in
set_option maxRecDepth 100000 in
theorem insV_grow (w : World) (n i g cap vb vc : Nat) (cur : Array Value) (xs news : List Value) (hi : i < n) (hg : w.heap[g]? = some (.cells cur 62 (0, 0))) (hcs : cur.size = cap * 9) (hnc : n <= cap) (hroom : cap < n + 1) (htake : cur.toList.take (n * 9) = xs)
  (vcur : Array Value) (hvg : w.heap[vb]? = some (.cells vcur 62 (0, 0))) (hnl : news.length = 9) (hvt : vcur.toList.take 9 = news) (h1x : ∀ u ∈ xs, u.oneCell' = true) (h1 : ∀ u ∈ news, u.oneCell' = true) (h63 : n + 1 <= maxLen) (hby : (n + 1) * 120 <= 140737488355328) :
  Calls Try.prog 55 #[.slice (some ⟨g, 0, none⟩) n cap, .int .i64 i, .slice (some ⟨vb, 0, none⟩) 1 vc] w fun en w' => ∃ G C, en = .returned (.slice (some ⟨w.heap.size, 0, none⟩) (n + 1) G) /\ w.grownBy w' none /\ w'.heap[w.heap.size]? = some (.cells C 62 (0, 0)) /\ n + 1 <= G /\ G <= maxLen /\ C.size = G * 9 /\ C.toList.take ((n + 1) * 9) = xs.take (i * 9) ++ news ++ xs.drop (i * 9) := by
 have h63' : n + 1 <= 9223372036854775807 := by unfold maxLen at h63; omega
 obtain ⟨i0, hi0, hz0, hz1, hz2⟩ := info_parts verInfo
 have hsz : (Try.prog.info? 62).map (·.size) = some 9 := by kernel_rfl
 have hxl : xs.length = n * 9 := by rw [← htake, List.length_take, Array.length_toList]; omega
 have hdl : (xs.drop (i * 9)).length = (n - i) * 9 := by rw [List.length_drop, hxl]; omega
 have hgw : g < w.heap.size := (Array.getElem?_eq_some_iff.1 hg).1
 have hvw : vb < w.heap.size := (Array.getElem?_eq_some_iff.1 hvg).1
 have hkk : (n : Int) + 1 - (i : Int) = ((n + 1 - i : Nat) : Int) := by omega
 have hik : i + (n + 1 - i) = n + 1 := by omega
 have hold : (Builtin.firstCells i0.size i (.slice (some ⟨g, 0, none⟩) i cap)).run Try.prog w.drew = .ok (xs.take (i * 9)).toArray w.drew := by
  rw [hz1]
  exact run_firstCells_some w.drew 9 i ⟨g, 0, none⟩ i cap (xs.take (i * 9)) (by rw [List.length_take]; omega) (fun j v hj => by
   rw [Addr.add_lit, Nat.zero_add]
   rw [List.getElem?_take] at hj
   split at hj
   ·exact cell_take (w := w) hg htake hj
   ·cases hj)
 obtain ⟨G, hG⟩ : ∃ G, G = grownCap w (n + 1) cap 62 := ⟨_, rfl⟩
 have hGn : n + 1 <= G := by rw [hG]; exact grownCap_ge w _ _ _
 have hGm : G <= maxLen := by rw [hG]; exact grownCap_le_maxLen w _ _ _ h63
 obtain ⟨Z, hZ⟩ : ∃ Z : Array Value, Z = (Value.agg #[.int .i64 0, .int .i64 0, .int .i64 0, .int .i64 0, .int .i64 0, .slice none 0 0, .slice none 0 0, .slice none 0 0, .int .i64 0]).cells := ⟨_, rfl⟩
 have hZ9 : Z.size = 9 := by rw [hZ]; rfl
 obtain ⟨ROW, hROW⟩ : ∃ ROW : Array Value, ROW = (xs.take (i * 9)).toArray ++ Builtin.zeroCells Z (n + 1 - i) ++ Builtin.zeroCells Z (G - (n + 1)) := ⟨_, rfl⟩
 have hrz : ∀ ty, (Builtin.append_ #[36, 3] ty #[.slice (some ⟨g, 0, none⟩) i cap, .int .i64 ((n : Int) + 1 - (i : Int))]).run Try.prog w =
   .ok (.slice (some ⟨w.heap.size, 0, none⟩) (n + 1) G) (w.drew.alloc (.cells ROW 62)) := fun ty => by
  have h := Lib.run_append_grow_zeros w 36 3 ty 62 i0 _ .i64 .i64 Try.underlying36 Try.underlying3 hi0 hz0 (some ⟨g, 0, none⟩) i cap (xs.take (i * 9)) hold (n + 1 - i) (by omega) (by omega) (by omega) (by omega) (by rw [hz2]; omega) (by rw [hz2, hik]; exact growslice_fits hroom hby)
  rw [hik, ← hG, ← hZ, ← hROW] at h
  rw [hkk]
  exact h
 have hRs : ROW.size = G * 9 := by
  rw [hROW]
  simp only [Array.size_append, List.size_toArray, size_zeroCells, hZ9, List.length_take, hxl]
  omega
 have hRt : ROW.toList.take (i * 9) = xs.take (i * 9) := by
  rw [hROW, Array.toList_append, Array.toList_append, List.append_assoc]
  exact List.take_left' (by rw [List.length_take]; omega)
 obtain ⟨C1, hC1⟩ : ∃ C1 : Array Value, C1 = (ROW.toList.take (i * 9) ++ news ++ ROW.toList.drop (i * 9 + news.length)).toArray := ⟨_, rfl⟩
 obtain ⟨C2, hC2⟩ : ∃ C2 : Array Value, C2 = (C1.toList.take ((i + 1) * 9) ++ xs.drop (i * 9) ++ C1.toList.drop ((i + 1) * 9 + (xs.drop (i * 9)).length)).toArray := ⟨_, rfl⟩
 obtain ⟨k1, k2, k3⟩ := ins_grow ROW.toList xs news (n * 9) (i * 9) 9 hxl (by omega) hRt (by rw [Array.length_toList]; omega) hnl C1.toList C2.toList (by rw [hC1]) (by rw [hC2]; simp only [show i * 9 + 9 = (i + 1) * 9 by omega])
 have hnew : (w.drew.alloc (.cells ROW 62)).heap[w.heap.size]? = some (.cells ROW 62 (0, 0)) := heap_alloc_new w.drew _
 have hcpA : ∀ ty dc, (Builtin.copy_ #[36, 36] ty #[.slice (some ⟨w.heap.size, i * 9, none⟩) (n + 1 - i) dc, .slice (some ⟨vb, 0, none⟩) 1 vc]).run Try.prog (w.alloc (.cells ROW 62)).drew = .ok (goInt (Nat.min 1 (n + 1 - i))) ((w.alloc (.cells ROW 62)).drew.setRow w.heap.size C1) := fun ty dc => by
  rw [hC1]
  exact run_copy_rows _ _ _ ty 62 9 w.heap.size (i * 9) (n + 1 - i) dc ⟨vb, 0, none⟩ 1 vc news ROW 62 Try.underlying36 hsz (by rw [hnl, show Nat.min 1 (n + 1 - i) = 1 from Nat.min_eq_left (by omega)])
   (fun j v hj => by
    rw [Addr.add_lit, Nat.zero_add]
    exact cell_take (q := 9) ((alloc_old_ab w.drew _ vb hvw).trans hvg) hvt hj) hnew (by omega) h1
 have hcpB : ∀ ty dc sc, (Builtin.copy_ #[36, 36] ty #[.slice (some ⟨w.heap.size, (i + 1) * 9, none⟩) (n - i) dc, .slice (some ⟨g, i * 9, none⟩) (n - i) sc]).run Try.prog ((w.alloc (.cells ROW 62)).drew.setRow w.heap.size C1).drew = .ok (goInt (Nat.min (n - i) (n - i))) (((w.alloc (.cells ROW 62)).drew.setRow w.heap.size C1).drew.setRow w.heap.size C2) := fun ty dc sc => by
  rw [hC2]
  exact run_copy_rows _ _ _ ty 62 9 w.heap.size ((i + 1) * 9) (n - i) dc ⟨g, i * 9, none⟩ (n - i) sc (xs.drop (i * 9)) C1 62 Try.underlying36 hsz (by rw [hdl, show Nat.min (n - i) (n - i) = n - i from Nat.min_self _])
   (fun j v hj => by
    rw [Addr.add_lit]
    exact cell_take (q := n * 9) (((setRow_other (w.alloc (.cells ROW 62)).drew w.heap.size g C1 (by omega)).trans (alloc_old_ab w.drew _ g hgw)).trans hg) htake (by rwa [List.getElem?_drop] at hj))
   (setRow_heap (w.alloc (.cells ROW 62)).drew w.heap.size ROW C1 _ _ hnew) (by rw [hdl, ← Array.length_toList, k1, Array.length_toList]; omega) (fun v hv => h1x v (List.mem_of_mem_drop hv))
 have hz2 : ¬ ((i : Int) = (n : Int)) := by omega
 have hz3 : (cap : Int) < (n : Int) + (1 : Int) := by omega
 have hGi : ¬ (G = i) := by omega
 have hGim : ¬ (G = i + 1) := by omega
 have hci : ¬ (cap = i) := by omega
 have hw1 : IntKind.i64.wrap ((i : Int) + (1 : Int)) = (i : Int) + (1 : Int) := by rw [IntKind.wrap_i64]; omega
 have hb1 : (0 : Int) <= (i : Int) + (1 : Int) := by omega
 have hin : i <= n := by omega
 have htn : ((i : Int) + (1 : Int)).toNat = i + 1 := by omega
 have hb3 : (i : Int) <= (n : Int) := by omega
 have hG63 : G <= 9223372036854775807 := by unfold maxLen at hGm; omega
 clear hkk hik hold hROW hC1 hC2 hG hRt hZ
 go_enter Try.func55, Try.ntmps55
 go_wp2_with (first
  | (at_builtin; refine Lib.wpList_append_run _ rfl _ _ _ _ rfl _ _ rfl rfl _ _ (hrz _) ?_)
  | (at_builtin; refine wpList_copy_is _ rfl _ _ 36 36 rfl _ _ rfl rfl (hcpA _ _) ?_)
  | (at_builtin; refine wpList_copy_is _ rfl _ _ 36 36 rfl _ _ rfl rfl (hcpB _ _ _) ?_))
 go_region_law (refine step_copy_is rfl _ _ 36 36 rfl _ _ (by simp [Act.eval, Act.put]) (by simp [Act.eval, Act.put]) (hcpB _ _ _) ?_)
 go_wp2
 go_ret
 refine ⟨G, C2, rfl, ⟨rfl, rfl, rfl, ?_, fun k hk _ => ?_⟩, ?_, hGn, hGm, by rw [← Array.length_toList, k2, Array.length_toList, hRs], by rw [show (n + 1) * 9 = n * 9 + 9 by omega]; exact k3⟩
 ·simp
 ·exact (setRow_other ((w.alloc (.cells ROW 62)).drew.setRow w.heap.size C1).drew w.heap.size k C2 (by omega)).trans ((setRow_other (w.alloc (.cells ROW 62)).drew w.heap.size k C1 (by omega)).trans (alloc_old_ab w _ k hk))
 ·exact setRow_heap ((w.alloc (.cells ROW 62)).drew.setRow w.heap.size C1).drew w.heap.size C1 C2 _ _ (setRow_heap (w.alloc (.cells ROW 62)).drew w.heap.size ROW C1 _ _ hnew)
theorem insV_ok : InsOK Try.prog 55 62 verT 120 := by
 refine ⟨enters_of Try.func55 (by kernel_rfl) rfl, fun w B n i s v xs news hB hs hv hne hi h1x h1 h63 hby => ?_⟩
 rcases Nat.lt_or_ge i n with hin | hin
 ·obtain ⟨vb, vc, vcur, rfl, hvb, hvg, hv1, hv2, hv3, hv4⟩ : ∃ g cap cur, v = .slice (some ⟨g, 0, none⟩) 1 cap /\ B <= g /\ w.heap[g]? = some (.cells cur 62 (0, 0)) /\ 1 <= cap /\ cap <= maxLen /\ cur.size = cap * verT.size /\ cur.toList.take (1 * verT.size) = news := by
   rcases hv.2 with ⟨_, h0⟩ | h'
   ·exact absurd h0 (by omega)
   ·exact h'
  rcases hs.2 with ⟨rfl, h0⟩ | ⟨g, cap, cur, rfl, hbg, hg, hnc, hcm, hcs, htake⟩
  ·omega
  ·have hne' : vb ≠ g := fun e => hne vb rfl (by rw [e]; rfl)
   rcases Nat.lt_or_ge cap (n + 1) with hr | hr
   ·refine (insV_grow w n i g cap vb vc cur xs news hin hg hcs hnc hr htake vcur hvg hv.1 hv4 h1x h1 h63 hby).mono fun en w' hp => ?_
    obtain ⟨G, C, rfl, hgr, hh, a1, a2, a3, a4⟩ := hp
    refine ⟨_, rfl, ⟨hgr.os, hgr.tape, hgr.output, hgr.size, fun k hk _ => hgr.block k hk (by simp)⟩, ⟨?_, .inr ⟨_, _, _, rfl, hB, hh, a1, a2, a3, a4⟩⟩, .inr rfl⟩
    show (xs.take (i * 9) ++ news ++ xs.drop (i * 9)).length = (n + 1) * 9
    rw [← a4, List.length_take, Array.length_toList, a3]
    exact Nat.min_eq_left (Nat.mul_le_mul_right _ a1)
   ·refine (insV_shift w n i g cap vb vc cur xs news hin hg hcs hr hcm htake vcur hvg hne' hv.1 hv4 hv1 hv3 h1x h1).mono fun en w' hp => ?_
    obtain ⟨cur', rfl, rfl, a3, a4⟩ := hp
    have a5 : cur'.size = cap * 9 := a3.trans hcs
    refine ⟨_, rfl, ⟨rfl, rfl, rfl, by simp, fun k _ hk => setRow_other w.drew g k _ (fun e => hk (by simp [Value.ownBlock, e]))⟩, ⟨?_, .inr ⟨g, cap, cur', rfl, hbg, setRow_heap w.drew g cur cur' _ _ hg, hr, hcm, a5, a4⟩⟩, .inl rfl⟩
    show (xs.take (i * 9) ++ news ++ xs.drop (i * 9)).length = (n + 1) * 9
    rw [← a4, List.length_take, Array.length_toList, a5]
    exact Nat.min_eq_left (Nat.mul_le_mul_right _ hr)
 ·have he : i = n := by omega
  subst he
  refine (insV_end w B i s v xs news hB hs hv h1 h63 hby).mono fun en w' hp => ?_
  obtain ⟨v', rfl, a1, a2, a3⟩ := hp
  refine ⟨v', rfl, a1, ?_, a3⟩
  have hx : xs.length = i * verT.size := hs.1
  rw [List.take_of_length_le (by omega), List.drop_eq_nil_of_le (by omega), List.append_nil]
  exact a2
set_option maxHeartbeats 4000000 in
set_option maxRecDepth 100000 in
theorem cloneRV_ok : CloneOK Try.prog 56 62 verT 120 := by
 refine ⟨enters_of Try.func56 (by kernel_rfl) rfl, fun w n c A xs hnc hA hxl hxc h1 h63 hby => ?_⟩
 obtain ⟨i0, hi0, hz0, hz1, hz2⟩ := info_parts verInfo
 have hcmp : ∀ (A : Option Addr) (n c : Nat), (binOp .eql 36 (.slice A n c) (.slice none 0 0)).run Try.prog w = .ok (.bool A.isNone) w := fun A n c => by
  have h1 : binOp .eql 36 (.slice A n c) (.slice none 0 0) = (do pure (.bool (← Op.equal 36 (.slice A n c) (.slice none 0 0)))) := rfl
  have h2 : Op.equal 36 (.slice A n c) (.slice none 0 0) = Op.equalIn (9999 + 1) 36 (.slice A n c) (.slice none 0 0) := rfl
  rw [h1, h2]
  simp [nil_equal Try.underlying36]
 go_enter Try.func56, Try.ntmps56
 cases A with
 | none =>
  have h0 := hA rfl
  subst h0
  have hx : xs = [] := List.eq_nil_of_length_eq_zero (by simpa using hxl)
  subst hx
  go_wp2_with (simp only [hcmp])
  go_ret
  exact ⟨_, rfl, ⟨rfl, rfl, rfl, Nat.le_refl _, fun _ _ _ => rfl⟩, World.ownsRow_nil _ _ _ _⟩
 | some ad =>
  have hW : (w.alloc (.cells #[] 62)).ownsRow w.heap.size 62 9 (.slice (some ⟨w.heap.size, 0, none⟩) 0 0) 0 [] := World.ownsRow_lit w #[] 0 (Nat.le_refl _) (by unfold maxLen; omega) rfl
  have hcell : ∀ (j : Nat) u, xs[j]? = some u -> (w.alloc (.cells #[] 62)).cell? (ad.add j) = some u := fun j u hj => by
   have h := hxc ad rfl j u hj
   have hb := block_lt_of_cell h
   rw [World.cell?_of_block (alloc_old_ab w _ _ hb)]
   exact h
  obtain ⟨v', w', hr, e2, e3, e4⟩ := append_own (P := Try.prog) (w := w.alloc (.cells #[] 62)) (B := w.heap.size) 36 36 62 i0 _ 9 Try.underlying36 hi0 hz0 hz1 rfl (by decide) _ 0 [] hW (some ad) n c xs (fun h => by cases h) hxl (fun ad' e => by cases e; exact hcell) h1 (by rw [Nat.zero_add]; exact h63) (by rw [hz2, Nat.zero_add]; exact hby) (by simp)
  have hr' : ∀ ty, (Builtin.append_ #[36, 36] ty #[.slice (some ⟨w.heap.size, 0, none⟩) 0 0, .slice (some ad) n c]).run Try.prog (w.alloc (.cells #[] 62)) = .ok v' w' := fun ty => hr
  clear hr
  go_wp2_with (first | (simp only [hcmp]; done) | simp only [hcmp] | (at_builtin; refine Lib.wpList_append_run _ rfl _ _ _ _ rfl _ _ rfl rfl _ _ (hr' _) ?_))
  go_ret
  rw [Nat.zero_add, List.nil_append] at e2
  refine ⟨v', rfl, ⟨e3.os, e3.tape, e3.output, Nat.le_trans (by simp) e3.size, fun k hk _ => (e3.block k (by simp; omega) (fun e => ?_)).trans (alloc_old_ab w _ k hk)⟩, e2⟩
  have : k = w.heap.size := by simpa [Value.ownBlock] using e
  omega
end Go.Proofs.Ytplkgghjldndkaa
namespace Go.Proofs.Ytplkgghjldndkaa
open Go Go.Ab Go.RowKit Go.Proofs
abbrev cmpT : PT := .pf [i64, i64] [i64]
def ltOf (g : cmpT.den) (x y : Int) : Bool := decide ((g.1 (x, y, ())).1 < 0)
def DomOf (g : cmpT.den) (l : List Int) : Prop := ∀ x ∈ l, ∀ y ∈ l, g.2 (x, y, ())
theorem DomOf.sub {g : cmpT.den} {l s : List Int} (h : DomOf g l) (hs : ∀ x ∈ s, x ∈ l) : DomOf g s := fun x hx y hy => h x (hs x hx) y (hs y hy)
theorem half_nat {i j : Nat} (h : i + j <= 9223372036854775807) : IntKind.i64.wrap ((IntKind.u64.wrap (IntKind.i64.wrap ((i : Int) + j))).fdiv (2 ^ min (Int.toNat 1) IntKind.u64.bits)) = ((i + j) / 2 : Nat) := by
 have h1 : IntKind.i64.wrap ((i : Int) + j) = (i : Int) + j := IntWalk.i64_in _ (by omega)
 have h2 : IntKind.u64.wrap ((i : Int) + j) = (i : Int) + j := IntWalk.u64_in _ (by omega)
 have h3 : (2 : Int) ^ min (Int.toNat 1) IntKind.u64.bits = 2 := by decide
 rw [h1, h2, h3, Int.fdiv_eq_ediv_of_nonneg _ (by decide), IntWalk.i64_in _ (by omega)]
 omega
theorem add_nat {i j : Nat} (h : i + j <= 9223372036854775807) : IntKind.i64.wrap ((i : Int) + j) = (i + j : Nat) := by
 rw [IntWalk.i64_in _ (by omega)]
 omega
theorem succ_nat {i : Nat} (h : i + 1 <= 9223372036854775807) : IntKind.i64.wrap ((i : Int) + 1) = (i + 1 : Nat) := by
 rw [IntWalk.i64_in _ (by omega)]
 omega
theorem sub_nat {i j : Nat} (h : j <= i) (h2 : i <= 9223372036854775807) : IntKind.i64.wrap ((i : Int) - j) = (i - j : Nat) := by
 rw [IntWalk.i64_in _ (by omega)]
 omega
theorem pred_nat {i : Nat} (h : 1 <= i) (h2 : i <= 9223372036854775807) : IntKind.i64.wrap ((i : Int) - 1) = (i - 1 : Nat) := by
 rw [IntWalk.i64_in _ (by omega)]
 omega
theorem swapL_length {l : List Int} {i j : Nat} : (swapL l 0 i j).length = l.length := by simp [swapL]
theorem swapL_mem {l : List Int} {i j : Nat} (hi : i < l.length) (hj : j < l.length) {x : Int} (h : x ∈ swapL l 0 i j) : x ∈ l := by
 unfold swapL at h
 have h1 : l.getD i 0 ∈ l := getD_mem hi
 have h2 : l.getD j 0 ∈ l := getD_mem hj
 rcases List.mem_or_eq_of_mem_set h with h | rfl
 ·rcases List.mem_or_eq_of_mem_set h with h | rfl
  ·exact h
  ·exact h2
 ·exact h1
abbrev pt_insI : Pt := ⟨53, 2, ⟨[(1, .d i64), (2, .d i64), (3, cmpT), (8, .d i64), (9, .d i64)], [.al 10000 0, .o 0 3 i64]⟩, ⟨[(1, .d i64), (2, .d i64), (3, cmpT), (8, .d i64)], [.al 10000 0, .o 0 3 i64]⟩, ⟨[], []⟩⟩
noncomputable def insCode : Code := ((Go.Ab.loopB (loopF Try.f136 0) 0).getD .skip)
noncomputable def CI0 : Cx := cx [] []
theorem CI0_ok : CxOK Try.prog CI0 := cx_ok mixed trivial trivial
def fr_insI (x : pt_insI.M.X) : Fr pt_insI.Out :=
 let a := x.1.1; let j := x.1.2.2.2.2.1; let g := x.1.2.2.1; let l := x.2.1
 Fr.need (decide (j > a) = true -> 0 <= j /\ j < l.length)
  (Fr.need (decide (j > a) = true -> j.toNat < l.length)
   (Fr.need (decide (j > a) = true -> 0 <= IntKind.i64.wrap (j - 1) /\ IntKind.i64.wrap (j - 1) < l.length)
    (Fr.need (decide (j > a) = true -> (IntKind.i64.wrap (j - 1)).toNat < l.length)
     (Fr.need (decide (j > a) = true -> g.2 (l.getD j.toNat i64.dflt, l.getD (IntKind.i64.wrap (j - 1)).toNat i64.dflt, ()))
      (Fr.br (bif decide (j > a) then decide ((g.1 (l.getD j.toNat i64.dflt, l.getD (IntKind.i64.wrap (j - 1)).toNat i64.dflt, ())).1 < 0) else false)
       (Fr.need (0 <= IntKind.i64.wrap (j - 1) /\ IntKind.i64.wrap (j - 1) < l.length)
        (Fr.need ((IntKind.i64.wrap (j - 1)).toNat < l.length)
         (Fr.need (0 <= j /\ j < l.length)
          (Fr.need (j.toNat < l.length)
           (Fr.need (0 <= j /\ j < l.length)
            (Fr.need (j.toNat < l.length)
             (Fr.need (0 <= IntKind.i64.wrap (j - 1) /\ IntKind.i64.wrap (j - 1) < (l.set j.toNat (l.getD (IntKind.i64.wrap (j - 1)).toNat i64.dflt)).length)
              (Fr.need ((IntKind.i64.wrap (j - 1)).toNat < (l.set j.toNat (l.getD (IntKind.i64.wrap (j - 1)).toNat i64.dflt)).length)
               (Fr.val (Rd.next ((a, x.1.2.1, (g.1, g.2), x.1.2.2.2.1, IntKind.i64.wrap (j - 1), ()),
                ((l.set j.toNat (l.getD (IntKind.i64.wrap (j - 1)).toNat i64.dflt)).set (IntKind.i64.wrap (j - 1)).toNat (l.getD j.toNat i64.dflt), ()))))))))))))
       (Fr.val (Rd.out ((a, x.1.2.1, (g.1, g.2), x.1.2.2.2.1, ()), (l, ())))))))))
theorem sem_insI : Does Try.prog insCode pt_insI.M pt_insI fr_insI :=
 Does.of_run CI0_ok (bs := 0) (Λ := lam0) rfl rfl rfl (fun E => lam0_ok _ 0) (fun x => by kernel_rfl)
structure InvInsI (a j : Int) (g : cmpT.den) (l : List Int) : Prop where
 a0 : 0 <= a
 aj : a <= j
 jl : j < l.length
 big : (l.length : Int) <= 9223372036854775807
 dom : DomOf g l
def FInsI (x : pt_insI.M.X) : Fr pt_insI.Out :=
 Fr.need (InvInsI x.1.1 x.1.2.2.2.2.1 x.1.2.2.1 x.2.1) (Fr.val (Rd.out ((x.1.1, x.1.2.1, x.1.2.2.1, x.1.2.2.2.1, ()), (insDown (ltOf x.1.2.2.1) 0 x.1.1.toNat x.1.2.2.2.2.1.toNat x.2.1, ()))))
theorem lawInsI (a b i j : Int) (g : cmpT.den) (l : List Int) (hinv : InvInsI a j g l) (Q : pt_insI.Out -> Prop)
  (hq : Q (Rd.out ((a, b, g, i, ()), (insDown (ltOf g) 0 a.toNat j.toNat l, ())))) : (fr_insI ((a, b, g, i, j, ()), (l, ()))).satP fun
   | .next x' => InvInsI x'.1.1 x'.1.2.2.2.2.1 x'.1.2.2.1 x'.2.1 /\ x'.1.2.2.2.2.1.toNat < j.toNat /\ (FInsI x').satP Q
   | .out y => Q (.out y)
   | .back z => Q (.back z)
   | .pan p => Q (.pan p) := by
 obtain ⟨h0, h1, h2, h3, h4⟩ := hinv
 obtain ⟨a', rfl⟩ : ∃ n : Nat, a = n := ⟨a.toNat, by omega⟩
 obtain ⟨j', rfl⟩ : ∃ n : Nat, j = n := ⟨j.toNat, by omega⟩
 dsimp only [fr_insI, Fr.satP, Ty.den, PT.den]
 by_cases hj : a' < j'
 ·obtain ⟨k, rfl⟩ : ∃ k, j' = k + 1 := ⟨j' - 1, by omega⟩
  have hkl : k + 1 < l.length := by omega
  have hw : IntKind.i64.wrap (((k + 1 : Nat) : Int) - 1) = (k : Nat) := by rw [pred_nat (by omega) (by omega)]; rfl
  have hd : decide (((k + 1 : Nat) : Int) > (a' : Int)) = true := decide_eq_true (by omega)
  have t1 : ((k + 1 : Nat) : Int).toNat = k + 1 := rfl
  have t2 : ((k : Nat) : Int).toNat = k := rfl
  rw [hw, hd, t1, t2]
  simp only [List.length_set]
  refine ⟨fun _ => ⟨by omega, by omega⟩, fun _ => by omega, fun _ => ⟨by omega, by omega⟩, fun _ => by omega, fun _ => h4 _ (getD_mem hkl) _ (getD_mem (by omega)), fun hc => ?_, fun hc => ?_⟩
  ·refine ⟨⟨by omega, by omega⟩, by omega, ⟨by omega, by omega⟩, by omega, ⟨by omega, by omega⟩, by omega, ⟨by omega, by omega⟩, by omega, ?_⟩
   have hI : InvInsI a' k g (swapL l 0 (k + 1) k) := ⟨by omega, by omega, by rw [swapL_length]; omega, by rw [swapL_length]; omega, h4.sub fun x hx => swapL_mem hkl (by omega) hx⟩
   refine ⟨hI, by omega, hI, ?_⟩
   simp only [Int.toNat_natCast, insDown] at hq ⊢
   rw [if_pos (by omega)] at hq
   have hc' : ltOf g (l.getD (k + 1) 0) (l.getD k 0) = true := hc
   rw [hc'] at hq
   exact hq
  ·simp only [Int.toNat_natCast, insDown] at hq
   rw [if_pos (by omega)] at hq
   have hc' : ltOf g (l.getD (k + 1) 0) (l.getD k 0) = false := hc
   rw [hc'] at hq
   exact hq
 ·have hd : decide ((j' : Int) > (a' : Int)) = false := decide_eq_false (by omega)
  rw [hd]
  refine ⟨fun h => (by cases h), fun h => (by cases h), fun h => (by cases h), fun h => (by cases h), fun h => (by cases h), fun hc => (by cases hc), fun _ => ?_⟩
  have hx : insDown (ltOf g) 0 a' j' l = l := by
   cases j' with
   | zero => rfl
   | succ k => simp only [insDown]; rw [if_neg (by omega)]
  simp only [Int.toNat_natCast, hx] at hq
  exact hq
theorem loopInsI : Does Try.prog (.loop insCode) pt_insI.M pt_insI FInsI := by
 refine Does.loop (n := 53) (id := 2) sem_insI (inv := fun x => InvInsI x.1.1 x.1.2.2.2.2.1 x.1.2.2.1 x.2.1) (μ := fun x => x.1.2.2.2.2.1.toNat) ?_ (fun x Q h => h.1)
 rintro ⟨⟨a, b, g, i, j, _⟩, ⟨l, _⟩⟩ hinv Q hq
 exact lawInsI a b i j g l hinv Q hq.2
abbrev pt_insO : Pt := ⟨53, 0, ⟨[(1, .d i64), (2, .d i64), (3, cmpT), (8, .d i64)], [.al 10000 0, .o 0 3 i64]⟩, ⟨[], [.al 10000 0, .o 0 3 i64]⟩, ⟨[], []⟩⟩
noncomputable def ΛInsI : Nat -> St -> Option Tr := fun _ => pt_insI.han CI0.Γ pt_insI.M FInsI
def fr_insO (x : pt_insO.M.X) : Fr pt_insO.Out :=
 let a := x.1.1; let b := x.1.2.1; let g := x.1.2.2.1; let i := x.1.2.2.2.1; let l := x.2.1
 Fr.br (decide (i < b))
  (Fr.need (InvInsI a i (g.1, g.2) l) (Fr.val (Rd.next ((a, b, (g.1, g.2), IntKind.i64.wrap (i + 1), ()), (insDown (ltOf (g.1, g.2)) 0 a.toNat i.toNat l, ())))))
  (Fr.val (Rd.out ((), (l, ()))))
theorem lam_insI {E : Env} : LamOK Try.prog E ΛInsI (loopF Try.f136 0) 0 :=
 lam1 (b := insCode) (by kernel_rfl) (by kernel_rfl) (Does.han CI0_ok rfl loopInsI)
theorem sem_insO : Does Try.prog (loopF Try.f136 0) pt_insO.M pt_insO fr_insO :=
 Does.of_run CI0_ok (bs := 0) (Λ := ΛInsI) rfl rfl rfl (fun E => lam_insI) (fun x => by kernel_rfl)
theorem insDown_mem {lt : Int -> Int -> Bool} {a : Nat} : (j : Nat) -> {l : List Int} -> j < l.length -> ∀ x ∈ insDown lt 0 a j l, x ∈ l
 | 0, _, _, _, h => h
 | j + 1, l, hj, x, h => by
  simp only [insDown] at h
  split at h
  ·cases hc : lt (l.getD (j + 1) 0) (l.getD j 0) with
   | true =>
    rw [hc] at h
    exact swapL_mem hj (by omega) (insDown_mem j (by rw [swapL_length]; omega) x h)
   | false =>
    rw [hc] at h
    exact h
  ·exact h
theorem insDown_length {lt : Int -> Int -> Bool} {a : Nat} : (j : Nat) -> {l : List Int} -> (insDown lt 0 a j l).length = l.length
 | 0, _ => rfl
 | j + 1, l => by
  simp only [insDown]
  split
  ·cases lt (l.getD (j + 1) 0) (l.getD j 0) with
   | true => rw [cond_true, insDown_length j, swapL_length]
   | false => rfl
  ·rfl
structure InvInsO (a b i : Int) (g : cmpT.den) (l : List Int) : Prop where
 a0 : 0 <= a
 ai : a < i
 bl : b <= l.length
 il : i <= 9223372036854775807
 big : (l.length : Int) <= 9223372036854775807
 dom : DomOf g l
def FInsO (x : pt_insO.M.X) : Fr pt_insO.Out :=
 Fr.need (InvInsO x.1.1 x.1.2.1 x.1.2.2.2.1 x.1.2.2.1 x.2.1) (Fr.val (Rd.out ((), (insFrom (ltOf x.1.2.2.1) 0 x.1.1.toNat (x.1.2.1 - x.1.2.2.2.1).toNat x.1.2.2.2.1.toNat x.2.1, ()))))
theorem lawInsO (a b i : Int) (g : cmpT.den) (l : List Int) (hinv : InvInsO a b i g l) (Q : pt_insO.Out -> Prop)
  (hq : Q (Rd.out ((), (insFrom (ltOf g) 0 a.toNat (b - i).toNat i.toNat l, ())))) : (fr_insO ((a, b, g, i, ()), (l, ()))).satP fun
   | .next x' => InvInsO x'.1.1 x'.1.2.1 x'.1.2.2.2.1 x'.1.2.2.1 x'.2.1 /\ (x'.1.2.1 - x'.1.2.2.2.1).toNat < (b - i).toNat /\ (FInsO x').satP Q
   | .out y => Q (.out y)
   | .back z => Q (.back z)
   | .pan p => Q (.pan p) := by
 obtain ⟨h0, h1, h2, h3, h4, h5⟩ := hinv
 dsimp only [fr_insO, Fr.satP, Ty.den, PT.den]
 refine ⟨fun hi => ?_, fun hi => ?_⟩
 ·have hlt : i < b := of_decide_eq_true hi
  have hw : IntKind.i64.wrap (i + 1) = i + 1 := IntWalk.i64_in _ (by omega)
  have hI : InvInsO a b (i + 1) g (insDown (ltOf g) 0 a.toNat i.toNat l) := ⟨h0, by omega, by rw [insDown_length]; exact h2, by omega, by rw [insDown_length]; exact h4, h5.sub fun x hx => insDown_mem _ (by omega) x hx⟩
  refine ⟨⟨h0, by omega, by omega, h4, h5⟩, ?_⟩
  rw [hw]
  refine ⟨hI, by omega, hI, ?_⟩
  have e1 : (b - i).toNat = (b - (i + 1)).toNat + 1 := by omega
  have e2 : (i + 1).toNat = i.toNat + 1 := by omega
  rw [e1] at hq
  simp only [insFrom] at hq
  dsimp only
  rw [e2]
  exact hq
 ·have hge : ¬ i < b := of_decide_eq_false hi
  have e1 : (b - i).toNat = 0 := by omega
  rw [e1] at hq
  exact hq
theorem loopInsO : Does Try.prog (.loop (loopF Try.f136 0)) pt_insO.M pt_insO FInsO := by
 refine Does.loop (n := 53) (id := 0) sem_insO (inv := fun x => InvInsO x.1.1 x.1.2.1 x.1.2.2.2.1 x.1.2.2.1 x.2.1) (μ := fun x => (x.1.2.1 - x.1.2.2.2.1).toNat) ?_ (fun x Q h => h.1)
 rintro ⟨⟨a, b, g, i, _⟩, ⟨l, _⟩⟩ hinv Q hq
 exact lawInsO a b i g l hinv Q hq.2
noncomputable def ΛInsO : Nat -> St -> Option Tr := fun _ => pt_insO.han CI0.Γ pt_insO.M FInsO
def OrdOf (g : cmpT.den) (l : List Int) : Prop := DomOf g l /\ ∃ key : Int -> Int, LtK (ltOf g) key l
theorem OrdOf.sub {g : cmpT.den} {l s : List Int} (h : OrdOf g l) (hs : ∀ x ∈ s, x ∈ l) : OrdOf g s := by
 obtain ⟨h1, key, h2⟩ := h
 exact ⟨h1.sub hs, key, h2.sub hs⟩
noncomputable def mInsert : Mt := ⟨3, i64, [.d i64, .d i64, cmpT], [], fun l x => (partB (ltOf x.2.2.1) x.1.toNat x.2.1.toNat l, ()), fun l x => [0 <= x.1, x.1 <= x.2.1, x.2.1 <= l.length, (l.length : Int) <= 4611686018427387903, OrdOf x.2.2.1 l]⟩
def fr_insert (l : List Int) (x : denP [.d i64, .d i64, cmpT]) : Fr (List Int × denL []) :=
 Fr.need (InvInsO x.1 x.2.1 (IntKind.i64.wrap (x.1 + 1)) (x.2.2.1.1, x.2.2.1.2) l)
  (Fr.val (insFrom (ltOf (x.2.2.1.1, x.2.2.1.2)) 0 x.1.toNat (x.2.1 - IntKind.i64.wrap (x.1 + 1)).toNat (IntKind.i64.wrap (x.1 + 1)).toNat l, ()))
theorem insert_ok : SoundMt Try.prog 136 mInsert :=
 convMt (mt_sound CI0_ok (Λ := ΛInsO) (fn := Try.f136) (fr := fr_insert) (e := 3) (T := i64) (ps := [.d i64, .d i64, cmpT]) (rs := []) (0, 0, (fun _ => (0, ()), fun _ => True), ()) (by kernel_rfl) rfl rfl
  (fun c E hc => lam1f hc (by kernel_rfl) (b := loopF Try.f136 0) (by kernel_rfl) (Does.han CI0_ok rfl loopInsO)) (fun l x => by kernel_rfl)) _ _ fun w F l xs vs _ _ _ hok => by
  obtain ⟨a, b, g, rfl⟩ : ∃ (a b : Int) (g : cmpT.den), xs = (a, b, g, ()) := ⟨xs.1, xs.2.1, xs.2.2.1, rfl⟩
  have hok' : (0 : Int) <= a /\ (a : Int) <= b /\ (b : Int) <= (List.length (α := Int) l : Int) /\ (List.length (α := Int) l : Int) <= 4611686018427387903 /\ OrdOf g l := hok
  obtain ⟨h1, h2, h3, hlen, h4, key, h5⟩ := hok'
  have hw : IntKind.i64.wrap (a + 1) = a + 1 := IntWalk.i64_in _ (by omega)
  dsimp only [fr_insert, Fr.ok, Fr.get, Ty.den, PT.den]
  rw [hw]
  refine ⟨⟨⟨h1, by omega, h3, by omega, by omega, h4⟩, trivial⟩, ?_⟩
  have := insFrom_part (key := key) (lt := ltOf g) (d := (0 : Int)) (a := a.toNat) (b := b.toNat) (l := l) (by omega) (by omega) h5
  show (insFrom (ltOf g) 0 a.toNat (b - (a + 1)).toNat (a + 1).toNat l, ()) = (partB (ltOf g) a.toNat b.toNat l, ())
  rw [← this, show (b - (a + 1)).toNat = b.toNat - (a.toNat + 1) by omega, show (a + 1).toNat = a.toNat + 1 by omega]
abbrev pt_swp : Pt := ⟨38, 0, ⟨[(1, .d i64), (2, .d i64), (3, .d i64), (10, .d i64)], [.al 10000 0, .o 0 3 i64]⟩, ⟨[], [.al 10000 0, .o 0 3 i64]⟩, ⟨[], []⟩⟩
def fr_swp (x : pt_swp.M.X) : Fr pt_swp.Out :=
 let a := x.1.1; let b := x.1.2.1; let n := x.1.2.2.1; let i := x.1.2.2.2.1; let l := x.2.1
 Fr.br (decide (i < n))
  (Fr.need (0 <= IntKind.i64.wrap (b + i) /\ IntKind.i64.wrap (b + i) < l.length)
   (Fr.need ((IntKind.i64.wrap (b + i)).toNat < l.length)
    (Fr.need (0 <= IntKind.i64.wrap (a + i) /\ IntKind.i64.wrap (a + i) < l.length)
     (Fr.need ((IntKind.i64.wrap (a + i)).toNat < l.length)
      (Fr.need (0 <= IntKind.i64.wrap (a + i) /\ IntKind.i64.wrap (a + i) < l.length)
       (Fr.need ((IntKind.i64.wrap (a + i)).toNat < l.length)
        (Fr.need (0 <= IntKind.i64.wrap (b + i) /\ IntKind.i64.wrap (b + i) < (l.set (IntKind.i64.wrap (a + i)).toNat (l.getD (IntKind.i64.wrap (b + i)).toNat i64.dflt)).length)
         (Fr.need ((IntKind.i64.wrap (b + i)).toNat < (l.set (IntKind.i64.wrap (a + i)).toNat (l.getD (IntKind.i64.wrap (b + i)).toNat i64.dflt)).length)
          (Fr.val (Rd.next ((a, b, n, IntKind.i64.wrap (i + 1), ()),
           ((l.set (IntKind.i64.wrap (a + i)).toNat (l.getD (IntKind.i64.wrap (b + i)).toNat i64.dflt)).set (IntKind.i64.wrap (b + i)).toNat (l.getD (IntKind.i64.wrap (a + i)).toNat i64.dflt), ()))))))))))))
  (Fr.val (Rd.out ((), (l, ()))))
theorem sem_swp : Does Try.prog (loopF Try.f145 0) pt_swp.M pt_swp fr_swp :=
 Does.of_run CI0_ok (bs := 0) (Λ := lam0) rfl rfl rfl (fun E => lam0_ok _ 0) (fun x => by kernel_rfl)
structure InvSwp (a b n i : Int) (l : List Int) : Prop where
 a0 : 0 <= a
 b0 : 0 <= b
 i0 : 0 <= i
 al : a + n <= l.length
 bl : b + n <= l.length
 big : (l.length : Int) <= 9223372036854775807
def FSwp (x : pt_swp.M.X) : Fr pt_swp.Out :=
 Fr.need (InvSwp x.1.1 x.1.2.1 x.1.2.2.1 x.1.2.2.2.1 x.2.1) (Fr.val (Rd.out ((), (swapR 0 (x.1.2.2.1 - x.1.2.2.2.1).toNat (x.1.1 + x.1.2.2.2.1).toNat (x.1.2.1 + x.1.2.2.2.1).toNat x.2.1, ()))))
theorem lawSwp (a b n i : Int) (l : List Int) (hinv : InvSwp a b n i l) (Q : pt_swp.Out -> Prop)
  (hq : Q (Rd.out ((), (swapR 0 (n - i).toNat (a + i).toNat (b + i).toNat l, ())))) : (fr_swp ((a, b, n, i, ()), (l, ()))).satP fun
   | .next x' => InvSwp x'.1.1 x'.1.2.1 x'.1.2.2.1 x'.1.2.2.2.1 x'.2.1 /\ (x'.1.2.2.1 - x'.1.2.2.2.1).toNat < (n - i).toNat /\ (FSwp x').satP Q
   | .out y => Q (.out y)
   | .back z => Q (.back z)
   | .pan p => Q (.pan p) := by
 obtain ⟨h0, h1, h2, h3, h4, h5⟩ := hinv
 dsimp only [fr_swp, Fr.satP, Ty.den, PT.den]
 refine ⟨fun hi => ?_, fun hi => ?_⟩
 ·have hlt : i < n := of_decide_eq_true hi
  have w1 : IntKind.i64.wrap (b + i) = b + i := IntWalk.i64_in _ (by omega)
  have w2 : IntKind.i64.wrap (a + i) = a + i := IntWalk.i64_in _ (by omega)
  have w3 : IntKind.i64.wrap (i + 1) = i + 1 := IntWalk.i64_in _ (by omega)
  rw [w1, w2, w3]
  simp only [List.length_set]
  refine ⟨⟨by omega, by omega⟩, by omega, ⟨by omega, by omega⟩, by omega, ⟨by omega, by omega⟩, by omega, ⟨by omega, by omega⟩, by omega, ?_⟩
  have hI : InvSwp a b n (i + 1) (swapL l 0 (a + i).toNat (b + i).toNat) := ⟨h0, h1, by omega, by rw [swapL_length]; omega, by rw [swapL_length]; omega, by rw [swapL_length]; omega⟩
  refine ⟨hI, by omega, hI, ?_⟩
  rw [show (n - i).toNat = (n - (i + 1)).toNat + 1 by omega] at hq
  simp only [swapR] at hq
  dsimp only
  rw [show (a + (i + 1)).toNat = (a + i).toNat + 1 by omega, show (b + (i + 1)).toNat = (b + i).toNat + 1 by omega]
  exact hq
 ·have hge : ¬ i < n := of_decide_eq_false hi
  rw [show (n - i).toNat = 0 by omega] at hq
  exact hq
theorem loopSwp : Does Try.prog (.loop (loopF Try.f145 0)) pt_swp.M pt_swp FSwp := by
 refine Does.loop (n := 38) (id := 0) sem_swp (inv := fun x => InvSwp x.1.1 x.1.2.1 x.1.2.2.1 x.1.2.2.2.1 x.2.1) (μ := fun x => (x.1.2.2.1 - x.1.2.2.2.1).toNat) ?_ (fun x Q h => h.1)
 rintro ⟨⟨a, b, n, i, _⟩, ⟨l, _⟩⟩ hinv Q hq
 exact lawSwp a b n i l hinv Q hq.2
noncomputable def ΛSwp : Nat -> St -> Option Tr := fun _ => pt_swp.han CI0.Γ pt_swp.M FSwp
noncomputable def mSwap : Mt := ⟨3, i64, [.d i64, .d i64, .d i64, cmpT], [], fun l x => (swapR 0 x.2.2.1.toNat x.1.toNat x.2.1.toNat l, ()), fun l x => [0 <= x.1, 0 <= x.2.1, x.1 + x.2.2.1 <= l.length, x.2.1 + x.2.2.1 <= l.length]⟩
def fr_swap (l : List Int) (x : denP [.d i64, .d i64, .d i64, cmpT]) : Fr (List Int × denL []) :=
 Fr.need (InvSwp x.1 x.2.1 x.2.2.1 0 l) (Fr.val (swapR 0 (x.2.2.1 - 0).toNat (x.1 + 0).toNat (x.2.1 + 0).toNat l, ()))
theorem swap_ok : SoundMt Try.prog 145 mSwap :=
 convMt (mt_sound CI0_ok (Λ := ΛSwp) (fn := Try.f145) (fr := fr_swap) (e := 3) (T := i64) (ps := [.d i64, .d i64, .d i64, cmpT]) (rs := []) (0, 0, 0, (fun _ => (0, ()), fun _ => True), ()) (by kernel_rfl) rfl rfl
  (fun c E hc => lam1f hc (by kernel_rfl) (b := loopF Try.f145 0) (by kernel_rfl) (Does.han CI0_ok rfl loopSwp)) (fun l x => by kernel_rfl)) _ _ fun w F l xs vs _ hlen _ hok => by
  obtain ⟨a, b, n, g, rfl⟩ : ∃ (a b n : Int) (g : cmpT.den), xs = (a, b, n, g, ()) := ⟨xs.1, xs.2.1, xs.2.2.1, xs.2.2.2.1, rfl⟩
  have hok' : (0 : Int) <= a /\ (0 : Int) <= b /\ (a : Int) + n <= (List.length (α := Int) l : Int) /\ (b : Int) + n <= (List.length (α := Int) l : Int) := hok
  obtain ⟨h1, h2, h3, h4⟩ := hok'
  have hlen : List.length (α := Int) l <= maxLen := hlen
  simp only [maxLen] at hlen
  refine ⟨⟨⟨h1, h2, Int.le_refl _, h3, h4, by omega⟩, trivial⟩, ?_⟩
  show (swapR 0 (n - 0).toNat (a + 0).toNat (b + 0).toNat l, ()) = (swapR 0 n.toNat a.toNat b.toNat l, ())
  rw [Int.sub_zero, Int.add_zero, Int.add_zero]
theorem bsG_enough {Q : Nat -> Bool} : (f f' i j : Nat) -> j - i <= f -> j - i <= f' -> bsG Q f i j = bsG Q f' i j
 | 0, 0, _, _, _, _ => rfl
 | 0, f' + 1, i, j, h, _ => by simp only [bsG]; rw [if_neg (by omega)]
 | f + 1, 0, i, j, _, h => by simp only [bsG]; rw [if_neg (by omega)]
 | f + 1, f' + 1, i, j, h, h' => by
  simp only [bsG]
  split
  ·cases Q ((i + j) / 2) with
   | true => exact bsG_enough f f' _ _ (by omega) (by omega)
   | false => exact bsG_enough f f' _ _ (by omega) (by omega)
  ·rfl
theorem bsG_step {Q : Nat -> Bool} {i j : Nat} (h : i < j) : bsG Q (j - i) i j = bif Q ((i + j) / 2) then bsG Q (j - ((i + j) / 2 + 1)) ((i + j) / 2 + 1) j else bsG Q ((i + j) / 2 - i) i ((i + j) / 2) := by
 obtain ⟨f, hf⟩ : ∃ f, j - i = f + 1 := ⟨j - i - 1, by omega⟩
 rw [hf]
 simp only [bsG]
 rw [if_pos h]
 cases Q ((i + j) / 2) with
 | true => exact bsG_enough _ _ _ _ (by omega) (by omega)
 | false => exact bsG_enough _ _ _ _ (by omega) (by omega)
theorem rotG_enough {α : Type} {d : α} {m : Nat} : (f f' i j : Nat) -> (l : List α) -> 0 < i -> 0 < j -> i + j <= f -> i + j <= f' -> rotG d m f i j l = rotG d m f' i j l
 | 0, _, i, j, _, _, _, _, _ => by omega
 | f + 1, 0, i, j, _, _, _, _, _ => by omega
 | f + 1, f' + 1, i, j, l, h1, h2, h3, h4 => by
  simp only [rotG]
  split
  ·rfl
  ·split
   ·exact rotG_enough f f' _ _ _ (by omega) (by omega) (by omega) (by omega)
   ·exact rotG_enough f f' _ _ _ (by omega) (by omega) (by omega) (by omega)
noncomputable def CI1 : Cx := cxK [] [] (mtK (cx [] []).Γ 145 mSwap)
theorem CI1_ok : CxOK Try.prog CI1 := cxK_ok mixed trivial trivial (mtK_ok CI0_ok.ct swap_ok)
abbrev pt_rot : Pt := ⟨58, 0, ⟨[(2, .d i64), (4, cmpT), (10, .d i64), (11, .d i64)], [.al 10000 0, .o 0 3 i64]⟩, ⟨[(2, .d i64), (4, cmpT), (10, .d i64)], [.al 10000 0, .o 0 3 i64]⟩, ⟨[], []⟩⟩
noncomputable def fr_rot (x : pt_rot.M.X) : Fr pt_rot.Out :=
 let m := x.1.1; let g := x.1.2.1; let i := x.1.2.2.1; let j := x.1.2.2.2.1; let l := x.2.1
 Fr.br (i != j)
  (Fr.br (decide (i > j))
   (Fr.need (0 <= IntKind.i64.wrap (m - i))
    (Fr.need (0 <= m)
     (Fr.need (IntKind.i64.wrap (m - i) + j <= (l.length : Int))
      (Fr.need (m + j <= (l.length : Int))
       (Fr.val (Rd.next ((m, (g.1, g.2), IntKind.i64.wrap (i - j), j, ()), ((mSwap.f l (IntKind.i64.wrap (m - i), m, j, (g.1, g.2), ())).1, ()))))))))
   (Fr.need (0 <= IntKind.i64.wrap (m - i))
    (Fr.need (0 <= IntKind.i64.wrap (IntKind.i64.wrap (m + j) - i))
     (Fr.need (IntKind.i64.wrap (m - i) + i <= (l.length : Int))
      (Fr.need (IntKind.i64.wrap (IntKind.i64.wrap (m + j) - i) + i <= (l.length : Int))
       (Fr.val (Rd.next ((m, (g.1, g.2), i, IntKind.i64.wrap (j - i), ()), ((mSwap.f l (IntKind.i64.wrap (m - i), IntKind.i64.wrap (IntKind.i64.wrap (m + j) - i), i, (g.1, g.2), ())).1, ())))))))))
  (Fr.val (Rd.out ((m, (g.1, g.2), i, ()), (l, ()))))
theorem sem_rot : Does Try.prog (loopF Try.f142 0) pt_rot.M pt_rot fr_rot :=
 Does.of_run CI1_ok (bs := 0) (Λ := lam0) rfl rfl rfl (fun E => lam0_ok _ 0) (fun x => by kernel_rfl)
theorem swapR_length : (n a b : Nat) -> (l : List Int) -> (swapR 0 n a b l).length = l.length
 | 0, _, _, _ => rfl
 | n + 1, a, b, l => by simp only [swapR]; rw [swapR_length n, swapL_length]
structure InvRot (m i j : Int) (l : List Int) : Prop where
 i0 : 0 < i
 j0 : 0 < j
 im : i <= m
 ml : m + j <= l.length
 big : (l.length : Int) <= 4611686018427387903
def FRot (x : pt_rot.M.X) : Fr pt_rot.Out :=
 Fr.need (InvRot x.1.1 x.1.2.2.1 x.1.2.2.2.1 x.2.1) (Fr.val (Rd.out ((x.1.1, x.1.2.1, ((rotG 0 x.1.1.toNat (x.1.2.2.1.toNat + x.1.2.2.2.1.toNat) x.1.2.2.1.toNat x.1.2.2.2.1.toNat x.2.1).1 : Nat), ()),
  ((rotG 0 x.1.1.toNat (x.1.2.2.1.toNat + x.1.2.2.2.1.toNat) x.1.2.2.1.toNat x.1.2.2.2.1.toNat x.2.1).2, ()))))
theorem lawRot (m i j : Int) (g : cmpT.den) (l : List Int) (hinv : InvRot m i j l) (Q : pt_rot.Out -> Prop)
  (hq : Q (Rd.out ((m, g, ((rotG 0 m.toNat (i.toNat + j.toNat) i.toNat j.toNat l).1 : Nat), ()), ((rotG 0 m.toNat (i.toNat + j.toNat) i.toNat j.toNat l).2, ())))) : (fr_rot ((m, g, i, j, ()), (l, ()))).satP fun
   | .next x' => InvRot x'.1.1 x'.1.2.2.1 x'.1.2.2.2.1 x'.2.1 /\ x'.1.2.2.1.toNat + x'.1.2.2.2.1.toNat < i.toNat + j.toNat /\ (FRot x').satP Q
   | .out y => Q (.out y)
   | .back z => Q (.back z)
   | .pan p => Q (.pan p) := by
 obtain ⟨h0, h1, h2, h3, h4⟩ := hinv
 obtain ⟨f, hf⟩ : ∃ f, i.toNat + j.toNat = f + 1 := ⟨i.toNat + j.toNat - 1, by omega⟩
 have w1 : IntKind.i64.wrap (m - i) = m - i := IntWalk.i64_in _ (by omega)
 have w2 : IntKind.i64.wrap (i - j) = i - j := IntWalk.i64_in _ (by omega)
 have w3 : IntKind.i64.wrap (m + j) = m + j := IntWalk.i64_in _ (by omega)
 have w4 : IntKind.i64.wrap (m + j - i) = m + j - i := IntWalk.i64_in _ (by omega)
 have w5 : IntKind.i64.wrap (j - i) = j - i := IntWalk.i64_in _ (by omega)
 dsimp only [fr_rot, Fr.satP, Ty.den, PT.den, mSwap]
 rw [w1, w2, w3, w4, w5]
 rw [hf] at hq
 simp only [rotG] at hq
 refine ⟨fun hc => ⟨fun hd => ?_, fun hd => ?_⟩, fun hc => ?_⟩
 ·have hgt : i > j := of_decide_eq_true hd
  rw [if_neg (by omega), if_pos (by omega)] at hq
  have hI : InvRot m (i - j) j (swapR 0 j.toNat (m - i).toNat m.toNat l) := ⟨by omega, h1, by omega, by rw [swapR_length]; omega, by rw [swapR_length]; omega⟩
  refine ⟨by omega, by omega, by omega, by omega, hI, by omega, hI, ?_⟩
  dsimp only [Ty.den, PT.den]
  rw [rotG_enough _ f (i - j).toNat j.toNat _ (by omega) (by omega) (Nat.le_refl _) (by omega), show (i - j).toNat = i.toNat - j.toNat by omega, show (m - i).toNat = m.toNat - i.toNat by omega]
  exact hq
 ·have hle : ¬ i > j := of_decide_eq_false hd
  have hne : i ≠ j := by simpa using hc
  rw [if_neg (by omega), if_neg (by omega)] at hq
  have hI : InvRot m i (j - i) (swapR 0 i.toNat (m - i).toNat (m + j - i).toNat l) := ⟨h0, by omega, h2, by rw [swapR_length]; omega, by rw [swapR_length]; omega⟩
  refine ⟨by omega, by omega, by omega, by omega, hI, by omega, hI, ?_⟩
  dsimp only [Ty.den, PT.den]
  rw [rotG_enough _ f i.toNat (j - i).toNat _ (by omega) (by omega) (Nat.le_refl _) (by omega), show (j - i).toNat = j.toNat - i.toNat by omega, show (m - i).toNat = m.toNat - i.toNat by omega, show (m + j - i).toNat = m.toNat + j.toNat - i.toNat by omega]
  exact hq
 ·have heq : i = j := by simpa using hc
  rw [if_pos (by omega)] at hq
  have : ((i.toNat : Nat) : Int) = i := by omega
  rw [this] at hq
  exact hq
theorem loopRot : Does Try.prog (.loop (loopF Try.f142 0)) pt_rot.M pt_rot FRot := by
 refine Does.loop (n := 58) (id := 0) sem_rot (inv := fun x => InvRot x.1.1 x.1.2.2.1 x.1.2.2.2.1 x.2.1) (μ := fun x => x.1.2.2.1.toNat + x.1.2.2.2.1.toNat) ?_ (fun x Q h => h.1)
 rintro ⟨⟨m, g, i, j, _⟩, ⟨l, _⟩⟩ hinv Q hq
 exact lawRot m i j g l hinv Q hq.2
noncomputable def ΛRot : Nat -> St -> Option Tr := fun _ => pt_rot.han CI1.Γ pt_rot.M FRot
theorem rotG_facts {m : Nat} : (f i j : Nat) -> (l : List Int) -> 0 < i -> 0 < j -> i + j <= f -> 0 < (rotG 0 m f i j l).1 /\ (rotG 0 m f i j l).1 <= i /\ (rotG 0 m f i j l).1 <= j /\ (rotG 0 m f i j l).2.length = l.length
 | 0, i, j, l, _, _, _ => by omega
 | f + 1, i, j, l, h1, h2, h3 => by
  simp only [rotG]
  split
  ·exact ⟨h1, Nat.le_refl _, by omega, rfl⟩
  ·split
   ·have := rotG_facts (m := m) f (i - j) j (swapR 0 j (m - i) m l) (by omega) h2 (by omega)
    rw [swapR_length] at this
    omega
   ·have := rotG_facts (m := m) f i (j - i) (swapR 0 i (m - i) (m + j - i) l) h1 (by omega) (by omega)
    rw [swapR_length] at this
    omega
noncomputable def mRot : Mt := ⟨3, i64, [.d i64, .d i64, .d i64, cmpT], [], fun l x => (rotF 0 x.1.toNat x.2.1.toNat x.2.2.1.toNat l, ()), fun l x => [0 <= x.1, x.1 < x.2.1, x.2.1 < x.2.2.1, x.2.2.1 <= l.length, (l.length : Int) <= 4611686018427387903]⟩
def roI (m i j : Int) (l : List Int) : Int := ((rotG 0 m.toNat (i.toNat + j.toNat) i.toNat j.toNat l).1 : Nat)
def roL (m i j : Int) (l : List Int) : List Int := (rotG 0 m.toNat (i.toNat + j.toNat) i.toNat j.toNat l).2
noncomputable def fr_rotate (l : List Int) (x : denP [.d i64, .d i64, .d i64, cmpT]) : Fr (List Int × denL []) :=
 let a := x.1; let m := x.2.1; let b := x.2.2.1; let g := x.2.2.2.1
 let i := roI m (IntKind.i64.wrap (m - a)) (IntKind.i64.wrap (b - m)) l
 let r := roL m (IntKind.i64.wrap (m - a)) (IntKind.i64.wrap (b - m)) l
 Fr.need (InvRot m (IntKind.i64.wrap (m - a)) (IntKind.i64.wrap (b - m)) l)
 (Fr.need (0 <= IntKind.i64.wrap (m - i))
  (Fr.need (0 <= m)
   (Fr.need (IntKind.i64.wrap (m - i) + i <= (r.length : Int))
    (Fr.need (m + i <= (r.length : Int))
     (Fr.val ((mSwap.f r (IntKind.i64.wrap (m - i), m, i, (g.1, g.2), ())).1, ()))))))
theorem rotate_ok : SoundMt Try.prog 142 mRot :=
 convMt (mt_sound CI1_ok (Λ := ΛRot) (fn := Try.f142) (fr := fr_rotate) (e := 3) (T := i64) (ps := [.d i64, .d i64, .d i64, cmpT]) (rs := []) (0, 0, 0, (fun _ => (0, ()), fun _ => True), ()) (by kernel_rfl) rfl rfl
  (fun c E hc => lam1f hc (by kernel_rfl) (b := loopF Try.f142 0) (by kernel_rfl) (Does.han CI1_ok rfl loopRot)) (fun l x => by kernel_rfl)) _ _ fun w F l xs vs _ _ _ hok => by
  obtain ⟨a, m, b, g, rfl⟩ : ∃ (a m b : Int) (g : cmpT.den), xs = (a, m, b, g, ()) := ⟨xs.1, xs.2.1, xs.2.2.1, xs.2.2.2.1, rfl⟩
  have hok' : (0 : Int) <= a /\ (a : Int) < m /\ (m : Int) < b /\ (b : Int) <= (List.length (α := Int) l : Int) /\ (List.length (α := Int) l : Int) <= 4611686018427387903 := hok
  obtain ⟨h1, h2, h3, h4, h5⟩ := hok'
  have w1 : IntKind.i64.wrap (m - a) = m - a := IntWalk.i64_in _ (by omega)
  have w2 : IntKind.i64.wrap (b - m) = b - m := IntWalk.i64_in _ (by omega)
  have hf := rotG_facts (m := m.toNat) ((m - a).toNat + (b - m).toNat) (m - a).toNat (b - m).toNat l (by omega) (by omega) (Nat.le_refl _)
  dsimp only [fr_rotate, Fr.ok, Fr.get, Ty.den, PT.den, mSwap, roI, roL]
  rw [w1, w2]
  have e1 : rotF 0 a.toNat m.toNat b.toNat l = swapR 0 (rotG 0 m.toNat ((m - a).toNat + (b - m).toNat) (m - a).toNat (b - m).toNat l).1 (m.toNat - (rotG 0 m.toNat ((m - a).toNat + (b - m).toNat) (m - a).toNat (b - m).toNat l).1) m.toNat (rotG 0 m.toNat ((m - a).toNat + (b - m).toNat) (m - a).toNat (b - m).toNat l).2 := by
   unfold rotF
   rw [show b.toNat - a.toNat = (m - a).toNat + (b - m).toNat by omega, show m.toNat - a.toNat = (m - a).toNat by omega, show b.toNat - m.toNat = (b - m).toNat by omega]
  generalize rotG 0 m.toNat ((m - a).toNat + (b - m).toNat) (m - a).toNat (b - m).toNat l = r at hf e1 ⊢
  have w3 : IntKind.i64.wrap (m - (r.1 : Int)) = m - r.1 := IntWalk.i64_in _ (by omega)
  rw [w3]
  refine ⟨⟨⟨by omega, by omega, by omega, by omega, h5⟩, by omega, by omega, by omega, by omega, trivial⟩, ?_⟩
  show (swapR 0 (r.1 : Int).toNat (m - r.1).toNat m.toNat r.2, ()) = (rotF 0 a.toNat m.toNat b.toNat l, ())
  rw [e1, show (r.1 : Int).toNat = r.1 by omega, show (m - (r.1 : Int)).toNat = m.toNat - r.1 by omega]
def midI (i j : Int) : Int := IntKind.i64.wrap ((IntKind.u64.wrap (IntKind.i64.wrap (i + j))).fdiv (2 ^ min (Int.toNat 1) IntKind.u64.bits))
theorem midI_nat {i j : Nat} (h : i + j <= 9223372036854775807) : midI (i : Int) j = ((i + j) / 2 : Nat) := half_nat h
abbrev pt_s0 : Pt := ⟨220, 0, ⟨[(1, .d i64), (4, cmpT), (10, .d i64), (11, .d i64)], [.al 10000 0, .o 0 3 i64]⟩, ⟨[(1, .d i64), (10, .d i64)], [.al 10000 0, .o 0 3 i64]⟩, ⟨[], []⟩⟩
def fr_s0 (x : pt_s0.M.X) : Fr pt_s0.Out :=
 let c := x.1.1; let g := x.1.2.1; let i := x.1.2.2.1; let j := x.1.2.2.2.1; let l := x.2.1
 Fr.br (decide (i < j))
  (Fr.need (¬(1 : Int) < 0)
   (Fr.need (0 <= midI i j /\ midI i j < (l.length : Int))
    (Fr.need ((midI i j).toNat < l.length)
     (Fr.need (0 <= c /\ c < (l.length : Int))
      (Fr.need ((c).toNat < l.length)
       (Fr.need (g.2 (l.getD (midI i j).toNat i64.dflt, l.getD c.toNat i64.dflt, ()))
        (Fr.br (decide ((g.1 (l.getD (midI i j).toNat i64.dflt, l.getD c.toNat i64.dflt, ())).1 < 0))
         (Fr.val (Rd.next ((c, (g.1, g.2), IntKind.i64.wrap (midI i j + 1), j, ()), (l, ()))))
         (Fr.val (Rd.next ((c, (g.1, g.2), i, midI i j, ()), (l, ())))))))))))
  (Fr.val (Rd.out ((c, i, ()), (l, ()))))
theorem sem_s0 : Does Try.prog (loopF Try.f137 0) pt_s0.M pt_s0 fr_s0 :=
 Does.of_run CI0_ok (bs := 0) (Λ := lam0) rfl rfl rfl (fun E => lam0_ok _ 0) (fun x => by kernel_rfl)
structure InvS0 (c i j : Int) (g : cmpT.den) (l : List Int) : Prop where
 c0 : 0 <= c
 cl : c < l.length
 i0 : 0 <= i
 ij : i <= j
 jl : j <= l.length
 big : (l.length : Int) <= 4611686018427387903
 dom : DomOf g l
def FS0 (x : pt_s0.M.X) : Fr pt_s0.Out :=
 let c := x.1.1; let g := x.1.2.1; let i := x.1.2.2.1; let j := x.1.2.2.2.1; let l := x.2.1
 Fr.need (InvS0 c i j g l) (Fr.val (Rd.out ((c, (bsG (fun h => ltOf g (l.getD h 0) (l.getD c.toNat 0)) (j.toNat - i.toNat) i.toNat j.toNat : Nat), ()), (l, ()))))
theorem lawS0 (c i j : Int) (g : cmpT.den) (l : List Int) (hinv : InvS0 c i j g l) (Q : pt_s0.Out -> Prop)
  (hq : Q (Rd.out ((c, (bsG (fun h => ltOf g (l.getD h 0) (l.getD c.toNat 0)) (j.toNat - i.toNat) i.toNat j.toNat : Nat), ()), (l, ())))) : (fr_s0 ((c, g, i, j, ()), (l, ()))).satP fun
   | .next x' => InvS0 x'.1.1 x'.1.2.2.1 x'.1.2.2.2.1 x'.1.2.1 x'.2.1 /\ (x'.1.2.2.2.1 - x'.1.2.2.1).toNat < (j - i).toNat /\ (FS0 x').satP Q
   | .out y => Q (.out y)
   | .back z => Q (.back z)
   | .pan p => Q (.pan p) := by
 obtain ⟨h0, h1, h2, h3, h4, hb, hd⟩ := hinv
 obtain ⟨i', rfl⟩ : ∃ n : Nat, i = n := ⟨i.toNat, by omega⟩
 obtain ⟨j', rfl⟩ : ∃ n : Nat, j = n := ⟨j.toNat, by omega⟩
 obtain ⟨c', rfl⟩ : ∃ n : Nat, c = n := ⟨c.toNat, by omega⟩
 have hm : midI (i' : Int) j' = ((i' + j') / 2 : Nat) := midI_nat (by omega)
 have hw : IntKind.i64.wrap ((((i' + j') / 2 : Nat) : Int) + 1) = ((i' + j') / 2 + 1 : Nat) := succ_nat (by omega)
 dsimp only [fr_s0, Fr.satP, Ty.den, PT.den]
 rw [hm, hw]
 simp only [Int.toNat_natCast] at hq ⊢
 refine ⟨fun hi => ?_, fun hi => ?_⟩
 ·have hlt : i' < j' := by have : (i' : Int) < j' := of_decide_eq_true hi; omega
  rw [bsG_step hlt] at hq
  have hml : (i' + j') / 2 < l.length := by omega
  have hcl : c' < l.length := by omega
  refine ⟨by omega, ⟨by omega, by omega⟩, by omega, ⟨by omega, by omega⟩, by omega, hd _ (getD_mem hml) _ (getD_mem hcl), fun hc => ?_, fun hc => ?_⟩
  ·have hc' : (ltOf g (l.getD ((i' + j') / 2) 0) (l.getD c' 0)) = true := hc
   rw [hc'] at hq
   have hI : InvS0 (c' : Int) ((i' + j') / 2 + 1 : Nat) j' g l := ⟨h0, h1, by omega, by omega, by omega, hb, hd⟩
   exact ⟨hI, by omega, hI, hq⟩
  ·have hc' : (ltOf g (l.getD ((i' + j') / 2) 0) (l.getD c' 0)) = false := hc
   rw [hc'] at hq
   have hI : InvS0 (c' : Int) i' ((i' + j') / 2 : Nat) g l := ⟨h0, h1, by omega, by omega, by omega, hb, hd⟩
   exact ⟨hI, by omega, hI, hq⟩
 ·have hge : ¬ i' < j' := by have : ¬ (i' : Int) < j' := of_decide_eq_false hi; omega
  rw [show j' - i' = 0 by omega] at hq
  exact hq
theorem loopS0 : Does Try.prog (.loop (loopF Try.f137 0)) pt_s0.M pt_s0 FS0 := by
 refine Does.loop (n := 220) (id := 0) sem_s0 (inv := fun x => InvS0 x.1.1 x.1.2.2.1 x.1.2.2.2.1 x.1.2.1 x.2.1) (μ := fun x => (x.1.2.2.2.1 - x.1.2.2.1).toNat) ?_ (fun x Q h => h.1)
 rintro ⟨⟨c, g, i, j, _⟩, ⟨l, _⟩⟩ hinv Q hq
 exact lawS0 c i j g l hinv Q hq.2
abbrev pt_s2 : Pt := ⟨220, 4, ⟨[(2, .d i64), (4, cmpT), (14, .d i64), (15, .d i64)], [.al 10000 0, .o 0 3 i64]⟩, ⟨[(2, .d i64), (14, .d i64)], [.al 10000 0, .o 0 3 i64]⟩, ⟨[], []⟩⟩
def fr_s2 (x : pt_s2.M.X) : Fr pt_s2.Out :=
 let c := x.1.1; let g := x.1.2.1; let i := x.1.2.2.1; let j := x.1.2.2.2.1; let l := x.2.1
 Fr.br (decide (i < j))
  (Fr.need (¬(1 : Int) < 0)
   (Fr.need (0 <= c /\ c < (l.length : Int))
    (Fr.need ((c).toNat < l.length)
     (Fr.need (0 <= midI i j /\ midI i j < (l.length : Int))
      (Fr.need ((midI i j).toNat < l.length)
       (Fr.need (g.2 (l.getD c.toNat i64.dflt, l.getD (midI i j).toNat i64.dflt, ()))
        (Fr.br (!decide ((g.1 (l.getD c.toNat i64.dflt, l.getD (midI i j).toNat i64.dflt, ())).1 < 0))
         (Fr.val (Rd.next ((c, (g.1, g.2), IntKind.i64.wrap (midI i j + 1), j, ()), (l, ()))))
         (Fr.val (Rd.next ((c, (g.1, g.2), i, midI i j, ()), (l, ())))))))))))
  (Fr.val (Rd.out ((c, i, ()), (l, ()))))
theorem sem_s2 : Does Try.prog (loopF Try.f137 2) pt_s2.M pt_s2 fr_s2 :=
 Does.of_run CI0_ok (bs := 0) (Λ := lam0) rfl rfl rfl (fun E => lam0_ok _ 0) (fun x => by kernel_rfl)
structure InvS2 (c i j : Int) (g : cmpT.den) (l : List Int) : Prop where
 c0 : 0 <= c
 cl : c < l.length
 i0 : 0 <= i
 ij : i <= j
 jl : j <= l.length
 big : (l.length : Int) <= 4611686018427387903
 dom : DomOf g l
def FS2 (x : pt_s2.M.X) : Fr pt_s2.Out :=
 let c := x.1.1; let g := x.1.2.1; let i := x.1.2.2.1; let j := x.1.2.2.2.1; let l := x.2.1
 Fr.need (InvS2 c i j g l) (Fr.val (Rd.out ((c, (bsG (fun h => !ltOf g (l.getD c.toNat 0) (l.getD h 0)) (j.toNat - i.toNat) i.toNat j.toNat : Nat), ()), (l, ()))))
theorem lawS2 (c i j : Int) (g : cmpT.den) (l : List Int) (hinv : InvS2 c i j g l) (Q : pt_s2.Out -> Prop)
  (hq : Q (Rd.out ((c, (bsG (fun h => !ltOf g (l.getD c.toNat 0) (l.getD h 0)) (j.toNat - i.toNat) i.toNat j.toNat : Nat), ()), (l, ())))) : (fr_s2 ((c, g, i, j, ()), (l, ()))).satP fun
   | .next x' => InvS2 x'.1.1 x'.1.2.2.1 x'.1.2.2.2.1 x'.1.2.1 x'.2.1 /\ (x'.1.2.2.2.1 - x'.1.2.2.1).toNat < (j - i).toNat /\ (FS2 x').satP Q
   | .out y => Q (.out y)
   | .back z => Q (.back z)
   | .pan p => Q (.pan p) := by
 obtain ⟨h0, h1, h2, h3, h4, hb, hd⟩ := hinv
 obtain ⟨i', rfl⟩ : ∃ n : Nat, i = n := ⟨i.toNat, by omega⟩
 obtain ⟨j', rfl⟩ : ∃ n : Nat, j = n := ⟨j.toNat, by omega⟩
 obtain ⟨c', rfl⟩ : ∃ n : Nat, c = n := ⟨c.toNat, by omega⟩
 have hm : midI (i' : Int) j' = ((i' + j') / 2 : Nat) := midI_nat (by omega)
 have hw : IntKind.i64.wrap ((((i' + j') / 2 : Nat) : Int) + 1) = ((i' + j') / 2 + 1 : Nat) := succ_nat (by omega)
 dsimp only [fr_s2, Fr.satP, Ty.den, PT.den]
 rw [hm, hw]
 simp only [Int.toNat_natCast] at hq ⊢
 refine ⟨fun hi => ?_, fun hi => ?_⟩
 ·have hlt : i' < j' := by have : (i' : Int) < j' := of_decide_eq_true hi; omega
  rw [bsG_step hlt] at hq
  have hml : (i' + j') / 2 < l.length := by omega
  have hcl : c' < l.length := by omega
  refine ⟨by omega, ⟨by omega, by omega⟩, by omega, ⟨by omega, by omega⟩, by omega, hd _ (getD_mem hcl) _ (getD_mem hml), fun hc => ?_, fun hc => ?_⟩
  ·have hc' : (!ltOf g (l.getD c' 0) (l.getD ((i' + j') / 2) 0)) = true := hc
   rw [hc'] at hq
   have hI : InvS2 (c' : Int) ((i' + j') / 2 + 1 : Nat) j' g l := ⟨h0, h1, by omega, by omega, by omega, hb, hd⟩
   exact ⟨hI, by omega, hI, hq⟩
  ·have hc' : (!ltOf g (l.getD c' 0) (l.getD ((i' + j') / 2) 0)) = false := hc
   rw [hc'] at hq
   have hI : InvS2 (c' : Int) i' ((i' + j') / 2 : Nat) g l := ⟨h0, h1, by omega, by omega, by omega, hb, hd⟩
   exact ⟨hI, by omega, hI, hq⟩
 ·have hge : ¬ i' < j' := by have : ¬ (i' : Int) < j' := of_decide_eq_false hi; omega
  rw [show j' - i' = 0 by omega] at hq
  exact hq
theorem loopS2 : Does Try.prog (.loop (loopF Try.f137 2)) pt_s2.M pt_s2 FS2 := by
 refine Does.loop (n := 220) (id := 4) sem_s2 (inv := fun x => InvS2 x.1.1 x.1.2.2.1 x.1.2.2.2.1 x.1.2.1 x.2.1) (μ := fun x => (x.1.2.2.2.1 - x.1.2.2.1).toNat) ?_ (fun x Q h => h.1)
 rintro ⟨⟨c, g, i, j, _⟩, ⟨l, _⟩⟩ hinv Q hq
 exact lawS2 c i j g l hinv Q hq.2
abbrev pt_s4 : Pt := ⟨220, 8, ⟨[(1, .d i64), (2, .d i64), (3, .d i64), (4, cmpT), (18, .d i64), (19, .d i64), (20, .d i64), (21, .d i64), (22, .d i64)], [.al 10000 0, .o 0 3 i64]⟩, ⟨[(1, .d i64), (2, .d i64), (3, .d i64), (4, cmpT), (18, .d i64), (19, .d i64), (20, .d i64)], [.al 10000 0, .o 0 3 i64]⟩, ⟨[], []⟩⟩
def fr_s4 (x : pt_s4.M.X) : Fr pt_s4.Out :=
 let a := x.1.1; let m := x.1.2.1; let b := x.1.2.2.1; let g := x.1.2.2.2.1; let mid := x.1.2.2.2.2.1; let n := x.1.2.2.2.2.2.1; let i := x.1.2.2.2.2.2.2.1; let j := x.1.2.2.2.2.2.2.2.1; let p := x.1.2.2.2.2.2.2.2.2.1; let l := x.2.1
 Fr.br (decide (i < j))
  (Fr.need (¬(1 : Int) < 0)
   (Fr.need (0 <= IntKind.i64.wrap (p - midI i j) /\ IntKind.i64.wrap (p - midI i j) < (l.length : Int))
    (Fr.need ((IntKind.i64.wrap (p - midI i j)).toNat < l.length)
     (Fr.need (0 <= midI i j /\ midI i j < (l.length : Int))
      (Fr.need ((midI i j).toNat < l.length)
       (Fr.need (g.2 (l.getD (IntKind.i64.wrap (p - midI i j)).toNat i64.dflt, l.getD (midI i j).toNat i64.dflt, ()))
        (Fr.br (!decide ((g.1 (l.getD (IntKind.i64.wrap (p - midI i j)).toNat i64.dflt, l.getD (midI i j).toNat i64.dflt, ())).1 < 0))
         (Fr.val (Rd.next ((a, m, b, (g.1, g.2), mid, n, IntKind.i64.wrap (midI i j + 1), j, p, ()), (l, ()))))
         (Fr.val (Rd.next ((a, m, b, (g.1, g.2), mid, n, i, midI i j, p, ()), (l, ())))))))))))
  (Fr.val (Rd.out ((a, m, b, (g.1, g.2), mid, n, i, ()), (l, ()))))
theorem sem_s4 : Does Try.prog (loopF Try.f137 4) pt_s4.M pt_s4 fr_s4 :=
 Does.of_run CI0_ok (bs := 0) (Λ := lam0) rfl rfl rfl (fun E => lam0_ok _ 0) (fun x => by kernel_rfl)
structure InvS4 (p i j : Int) (g : cmpT.den) (l : List Int) : Prop where
 p0 : 0 <= p
 pl : p < i + l.length
 pj : j <= p + 1
 i0 : 0 <= i
 ij : i <= j
 jl : j <= l.length
 big : (l.length : Int) <= 4611686018427387903
 dom : DomOf g l
def FS4 (x : pt_s4.M.X) : Fr pt_s4.Out :=
 let a := x.1.1; let m := x.1.2.1; let b := x.1.2.2.1; let g := x.1.2.2.2.1; let mid := x.1.2.2.2.2.1; let n := x.1.2.2.2.2.2.1; let i := x.1.2.2.2.2.2.2.1; let j := x.1.2.2.2.2.2.2.2.1; let p := x.1.2.2.2.2.2.2.2.2.1; let l := x.2.1
 Fr.need (InvS4 p i j g l) (Fr.val (Rd.out ((a, m, b, g, mid, n, (bsG (fun h => !ltOf g (l.getD (p.toNat - h) 0) (l.getD h 0)) (j.toNat - i.toNat) i.toNat j.toNat : Nat), ()), (l, ()))))
theorem lawS4 (a m b mid n p i j : Int) (g : cmpT.den) (l : List Int) (hinv : InvS4 p i j g l) (Q : pt_s4.Out -> Prop)
  (hq : Q (Rd.out ((a, m, b, g, mid, n, (bsG (fun h => !ltOf g (l.getD (p.toNat - h) 0) (l.getD h 0)) (j.toNat - i.toNat) i.toNat j.toNat : Nat), ()), (l, ())))) : (fr_s4 ((a, m, b, g, mid, n, i, j, p, ()), (l, ()))).satP fun
   | .next x' => InvS4 x'.1.2.2.2.2.2.2.2.2.1 x'.1.2.2.2.2.2.2.1 x'.1.2.2.2.2.2.2.2.1 x'.1.2.2.2.1 x'.2.1 /\ (x'.1.2.2.2.2.2.2.2.1 - x'.1.2.2.2.2.2.2.1).toNat < (j - i).toNat /\ (FS4 x').satP Q
   | .out y => Q (.out y)
   | .back z => Q (.back z)
   | .pan p => Q (.pan p) := by
 obtain ⟨h00, h0, h1, h2, h3, h4, hb, hd⟩ := hinv
 obtain ⟨i', rfl⟩ : ∃ n : Nat, i = n := ⟨i.toNat, by omega⟩
 obtain ⟨j', rfl⟩ : ∃ n : Nat, j = n := ⟨j.toNat, by omega⟩
 obtain ⟨p', rfl⟩ : ∃ n : Nat, p = n := ⟨p.toNat, by omega⟩
 have hm : midI (i' : Int) j' = ((i' + j') / 2 : Nat) := midI_nat (by omega)
 have hw : IntKind.i64.wrap ((((i' + j') / 2 : Nat) : Int) + 1) = ((i' + j') / 2 + 1 : Nat) := succ_nat (by omega)
 dsimp only [fr_s4, Fr.satP, Ty.den, PT.den]
 rw [hm, hw]
 have hp : (i' < j') -> IntKind.i64.wrap ((p' : Int) - (((i' + j') / 2 : Nat) : Int)) = (p' - (i' + j') / 2 : Nat) := fun h => sub_nat (by omega) (by omega)
 simp only [Int.toNat_natCast] at hq ⊢
 refine ⟨fun hi => ?_, fun hi => ?_⟩
 ·have hlt : i' < j' := by have : (i' : Int) < j' := of_decide_eq_true hi; omega
  rw [bsG_step hlt] at hq
  rw [hp hlt]
  simp only [Int.toNat_natCast]
  have hml : p' - (i' + j') / 2 < l.length := by omega
  have hcl : (i' + j') / 2 < l.length := by omega
  refine ⟨by omega, ⟨by omega, by omega⟩, by omega, ⟨by omega, by omega⟩, by omega, hd _ (getD_mem hml) _ (getD_mem hcl), fun hc => ?_, fun hc => ?_⟩
  ·have hc' : (!ltOf g (l.getD (p' - (i' + j') / 2) 0) (l.getD ((i' + j') / 2) 0)) = true := hc
   rw [hc'] at hq
   have hI : InvS4 (p' : Int) ((i' + j') / 2 + 1 : Nat) j' g l := ⟨h00, by omega, by omega, by omega, by omega, by omega, hb, hd⟩
   exact ⟨hI, by omega, hI, hq⟩
  ·have hc' : (!ltOf g (l.getD (p' - (i' + j') / 2) 0) (l.getD ((i' + j') / 2) 0)) = false := hc
   rw [hc'] at hq
   have hI : InvS4 (p' : Int) i' ((i' + j') / 2 : Nat) g l := ⟨h00, by omega, by omega, by omega, by omega, by omega, hb, hd⟩
   exact ⟨hI, by omega, hI, hq⟩
 ·have hge : ¬ i' < j' := by have : ¬ (i' : Int) < j' := of_decide_eq_false hi; omega
  rw [show j' - i' = 0 by omega] at hq
  exact hq
theorem loopS4 : Does Try.prog (.loop (loopF Try.f137 4)) pt_s4.M pt_s4 FS4 := by
 refine Does.loop (n := 220) (id := 8) sem_s4 (inv := fun x => InvS4 x.1.2.2.2.2.2.2.2.2.1 x.1.2.2.2.2.2.2.1 x.1.2.2.2.2.2.2.2.1 x.1.2.2.2.1 x.2.1) (μ := fun x => (x.1.2.2.2.2.2.2.2.1 - x.1.2.2.2.2.2.2.1).toNat) ?_ (fun x Q h => h.1)
 rintro ⟨⟨a, m, b, g, mid, n, i, j, p, _⟩, ⟨l, _⟩⟩ hinv Q hq
 exact lawS4 a m b mid n p i j g l hinv Q hq.2
abbrev pt_s1 : Pt := ⟨220, 2, ⟨[(10, .d i64), (13, .d i64)], [.al 10000 0, .o 0 3 i64]⟩, ⟨[], [.al 10000 0, .o 0 3 i64]⟩, ⟨[], []⟩⟩
def fr_s1 (x : pt_s1.M.X) : Fr pt_s1.Out :=
 let i := x.1.1; let k := x.1.2.1; let l := x.2.1
 Fr.br (decide (k < IntKind.i64.wrap (i - 1)))
  (Fr.need (0 <= IntKind.i64.wrap (k + 1) /\ IntKind.i64.wrap (k + 1) < (l.length : Int))
   (Fr.need ((IntKind.i64.wrap (k + 1)).toNat < l.length)
    (Fr.need (0 <= k /\ k < (l.length : Int))
     (Fr.need (k.toNat < l.length)
      (Fr.need (0 <= k /\ k < (l.length : Int))
       (Fr.need (k.toNat < l.length)
        (Fr.need (0 <= IntKind.i64.wrap (k + 1) /\ IntKind.i64.wrap (k + 1) < ((l.set k.toNat (l.getD (IntKind.i64.wrap (k + 1)).toNat i64.dflt)).length : Int))
         (Fr.need ((IntKind.i64.wrap (k + 1)).toNat < (l.set k.toNat (l.getD (IntKind.i64.wrap (k + 1)).toNat i64.dflt)).length)
          (Fr.val (Rd.next ((i, IntKind.i64.wrap (k + 1), ()), ((l.set k.toNat (l.getD (IntKind.i64.wrap (k + 1)).toNat i64.dflt)).set (IntKind.i64.wrap (k + 1)).toNat (l.getD k.toNat i64.dflt), ()))))))))))))
  (Fr.val (Rd.out ((), (l, ()))))
theorem sem_s1 : Does Try.prog (loopF Try.f137 1) pt_s1.M pt_s1 fr_s1 :=
 Does.of_run CI0_ok (bs := 0) (Λ := lam0) rfl rfl rfl (fun E => lam0_ok _ 0) (fun x => by kernel_rfl)
structure InvS1 (i k : Int) (l : List Int) : Prop where
 k0 : 0 <= k
 i0 : 0 <= i
 il : i <= l.length
 big : (l.length : Int) <= 4611686018427387903
def FS1 (x : pt_s1.M.X) : Fr pt_s1.Out :=
 let i := x.1.1; let k := x.1.2.1; let l := x.2.1
 Fr.need (InvS1 i k l) (Fr.val (Rd.out ((), (upS 0 (i - 1 - k).toNat k.toNat l, ()))))
theorem lawS1 (i k : Int) (l : List Int) (hinv : InvS1 i k l) (Q : pt_s1.Out -> Prop) (hq : Q (Rd.out ((), (upS 0 (i - 1 - k).toNat k.toNat l, ())))) : (fr_s1 ((i, k, ()), (l, ()))).satP fun
   | .next x' => InvS1 x'.1.1 x'.1.2.1 x'.2.1 /\ (x'.1.1 - 1 - x'.1.2.1).toNat < (i - 1 - k).toNat /\ (FS1 x').satP Q
   | .out y => Q (.out y)
   | .back z => Q (.back z)
   | .pan p => Q (.pan p) := by
 obtain ⟨h0, h1, h2, h3⟩ := hinv
 have w1 : IntKind.i64.wrap (i - 1) = i - 1 := IntWalk.i64_in _ (by omega)
 dsimp only [fr_s1, Fr.satP, Ty.den, PT.den]
 rw [w1]
 simp only [List.length_set]
 refine ⟨fun hc => ?_, fun hc => ?_⟩
 ·have hlt : k < i - 1 := of_decide_eq_true hc
  have w2 : IntKind.i64.wrap (k + 1) = k + 1 := IntWalk.i64_in _ (by omega)
  rw [w2]
  have hI : InvS1 i (k + 1) (swapL l 0 k.toNat (k + 1).toNat) := ⟨by omega, by omega, by rw [swapL_length]; omega, by rw [swapL_length]; omega⟩
  refine ⟨⟨by omega, by omega⟩, by omega, ⟨by omega, by omega⟩, by omega, ⟨by omega, by omega⟩, by omega, ⟨by omega, by omega⟩, by omega, hI, by omega, hI, ?_⟩
  rw [show (i - 1 - k).toNat = (i - 1 - (k + 1)).toNat + 1 by omega] at hq
  simp only [upS] at hq
  dsimp only [Ty.den, PT.den]
  rw [show k.toNat + 1 = (k + 1).toNat by omega] at hq
  exact hq
 ·have hge : ¬ k < i - 1 := of_decide_eq_false hc
  rw [show (i - 1 - k).toNat = 0 by omega] at hq
  exact hq
theorem loopS1 : Does Try.prog (.loop (loopF Try.f137 1)) pt_s1.M pt_s1 FS1 := by
 refine Does.loop (n := 220) (id := 2) sem_s1 (inv := fun x => InvS1 x.1.1 x.1.2.1 x.2.1) (μ := fun x => (x.1.1 - 1 - x.1.2.1).toNat) ?_ (fun x Q h => h.1)
 rintro ⟨⟨i, k, _⟩, ⟨l, _⟩⟩ hinv Q hq
 exact lawS1 i k l hinv Q hq.2
abbrev pt_s3 : Pt := ⟨220, 6, ⟨[(14, .d i64), (17, .d i64)], [.al 10000 0, .o 0 3 i64]⟩, ⟨[], [.al 10000 0, .o 0 3 i64]⟩, ⟨[], []⟩⟩
def fr_s3 (x : pt_s3.M.X) : Fr pt_s3.Out :=
 let i := x.1.1; let k := x.1.2.1; let l := x.2.1
 Fr.br (decide (k > i))
  (Fr.need (0 <= IntKind.i64.wrap (k - 1) /\ IntKind.i64.wrap (k - 1) < (l.length : Int))
   (Fr.need ((IntKind.i64.wrap (k - 1)).toNat < l.length)
    (Fr.need (0 <= k /\ k < (l.length : Int))
     (Fr.need (k.toNat < l.length)
      (Fr.need (0 <= k /\ k < (l.length : Int))
       (Fr.need (k.toNat < l.length)
        (Fr.need (0 <= IntKind.i64.wrap (k - 1) /\ IntKind.i64.wrap (k - 1) < ((l.set k.toNat (l.getD (IntKind.i64.wrap (k - 1)).toNat i64.dflt)).length : Int))
         (Fr.need ((IntKind.i64.wrap (k - 1)).toNat < (l.set k.toNat (l.getD (IntKind.i64.wrap (k - 1)).toNat i64.dflt)).length)
          (Fr.val (Rd.next ((i, IntKind.i64.wrap (k - 1), ()), ((l.set k.toNat (l.getD (IntKind.i64.wrap (k - 1)).toNat i64.dflt)).set (IntKind.i64.wrap (k - 1)).toNat (l.getD k.toNat i64.dflt), ()))))))))))))
  (Fr.val (Rd.out ((), (l, ()))))
theorem sem_s3 : Does Try.prog (loopF Try.f137 3) pt_s3.M pt_s3 fr_s3 :=
 Does.of_run CI0_ok (bs := 0) (Λ := lam0) rfl rfl rfl (fun E => lam0_ok _ 0) (fun x => by kernel_rfl)
structure InvS3 (i k : Int) (l : List Int) : Prop where
 i0 : 0 <= i
 ik : i <= k
 kl : k < l.length
 big : (l.length : Int) <= 4611686018427387903
def FS3 (x : pt_s3.M.X) : Fr pt_s3.Out :=
 let i := x.1.1; let k := x.1.2.1; let l := x.2.1
 Fr.need (InvS3 i k l) (Fr.val (Rd.out ((), (downS 0 (k - i).toNat k.toNat l, ()))))
theorem lawS3 (i k : Int) (l : List Int) (hinv : InvS3 i k l) (Q : pt_s3.Out -> Prop) (hq : Q (Rd.out ((), (downS 0 (k - i).toNat k.toNat l, ())))) : (fr_s3 ((i, k, ()), (l, ()))).satP fun
   | .next x' => InvS3 x'.1.1 x'.1.2.1 x'.2.1 /\ (x'.1.2.1 - x'.1.1).toNat < (k - i).toNat /\ (FS3 x').satP Q
   | .out y => Q (.out y)
   | .back z => Q (.back z)
   | .pan p => Q (.pan p) := by
 obtain ⟨h0, h1, h2, h3⟩ := hinv
 have w2 : IntKind.i64.wrap (k - 1) = k - 1 := IntWalk.i64_in _ (by omega)
 dsimp only [fr_s3, Fr.satP, Ty.den, PT.den]
 rw [w2]
 simp only [List.length_set]
 refine ⟨fun hc => ?_, fun hc => ?_⟩
 ·have hlt : k > i := of_decide_eq_true hc
  have hI : InvS3 i (k - 1) (swapL l 0 k.toNat (k - 1).toNat) := ⟨by omega, by omega, by rw [swapL_length]; omega, by rw [swapL_length]; omega⟩
  refine ⟨⟨by omega, by omega⟩, by omega, ⟨by omega, by omega⟩, by omega, ⟨by omega, by omega⟩, by omega, ⟨by omega, by omega⟩, by omega, hI, by omega, hI, ?_⟩
  rw [show (k - i).toNat = (k - 1 - i).toNat + 1 by omega] at hq
  simp only [downS] at hq
  dsimp only [Ty.den, PT.den]
  rw [show k.toNat - 1 = (k - 1).toNat by omega] at hq
  exact hq
 ·have hge : ¬ k > i := of_decide_eq_false hc
  rw [show (k - i).toNat = 0 by omega] at hq
  exact hq
theorem loopS3 : Does Try.prog (.loop (loopF Try.f137 3)) pt_s3.M pt_s3 FS3 := by
 refine Does.loop (n := 220) (id := 6) sem_s3 (inv := fun x => InvS3 x.1.1 x.1.2.1 x.2.1) (μ := fun x => (x.1.2.1 - x.1.1).toNat) ?_ (fun x Q h => h.1)
 rintro ⟨⟨i, k, _⟩, ⟨l, _⟩⟩ hinv Q hq
 exact lawS3 i k l hinv Q hq.2
structure SymOk (n : Nat) (a m b : Int) (g : cmpT.den) (l : List Int) : Prop where
 a0 : 0 <= a
 am : a < m
 mb : m < b
 bl : b <= l.length
 big : (l.length : Int) <= 4611686018427387903
 size : b - a <= n
 dom : DomOf g l
 key : ∃ key : Int -> Int, LtK (ltOf g) key l /\ SortK key (seg a.toNat m.toNat l) /\ SortK key (seg m.toNat b.toNat l)
noncomputable def mSym (n : Nat) : Mt := ⟨3, i64, [.d i64, .d i64, .d i64, cmpT], [], fun l x => (partB (ltOf x.2.2.2.1) x.1.toNat x.2.2.1.toNat l, ()), fun l x => [SymOk n x.1 x.2.1 x.2.2.1 x.2.2.2.1 l]⟩
noncomputable def CI2 (n : Nat) : Cx := cxK [] [] (orK (mtK (cx [] []).Γ 142 mRot) (mtK (cx [] []).Γ 137 (mSym n)))
theorem CI2_ok {n : Nat} (h : SoundMt Try.prog 137 (mSym n)) : CxOK Try.prog (CI2 n) := cxK_ok mixed trivial trivial (orK_ok (mtK_ok CI0_ok.ct rotate_ok) (mtK_ok CI0_ok.ct h))
noncomputable def ΛSym : Nat -> St -> Option Tr
 | 0 => pt_s0.han CI0.Γ pt_s0.M FS0
 | 1 => pt_s1.han CI0.Γ pt_s1.M FS1
 | 2 => pt_s2.han CI0.Γ pt_s2.M FS2
 | 3 => pt_s3.han CI0.Γ pt_s3.M FS3
 | _ => pt_s4.han CI0.Γ pt_s4.M FS4
theorem lam_sym {E : Env} {c : Code} (hc : Try.f137.body = some c) : LamOK Try.prog E ΛSym c 0 := by
 have hn : (Try.f137.body.map loopsIn) = some 5 := by kernel_rfl
 have b0 : Try.f137.body.bind (Go.Ab.loopB · 0) = some (loopF Try.f137 0) := by kernel_rfl
 have b1 : Try.f137.body.bind (Go.Ab.loopB · 1) = some (loopF Try.f137 1) := by kernel_rfl
 have b2 : Try.f137.body.bind (Go.Ab.loopB · 2) = some (loopF Try.f137 2) := by kernel_rfl
 have b3 : Try.f137.body.bind (Go.Ab.loopB · 3) = some (loopF Try.f137 3) := by kernel_rfl
 have b4 : Try.f137.body.bind (Go.Ab.loopB · 4) = some (loopF Try.f137 4) := by kernel_rfl
 have hb : ∀ i, i < 5 -> Try.f137.body.bind (Go.Ab.loopB · i) = some (loopF Try.f137 i) := fun i hi => match i, hi with
  | 0, _ => b0
  | 1, _ => b1
  | 2, _ => b2
  | 3, _ => b3
  | 4, _ => b4
 rw [hc] at hn hb
 simp only [Option.map_some, Option.some.injEq] at hn
 simp only [Option.bind_some] at hb
 refine lamAll c 0 fun i b' hb' => ?_
 have hlt := loopB_lt hb'
 rw [hn] at hlt
 have e := hb i hlt
 rw [e] at hb'
 cases hb'
 match i, hlt with
 | 0, _ => exact Does.han CI0_ok rfl loopS0
 | 1, _ => exact Does.han CI0_ok rfl loopS1
 | 2, _ => exact Does.han CI0_ok rfl loopS2
 | 3, _ => exact Does.han CI0_ok rfl loopS3
 | 4, _ => exact Does.han CI0_ok rfl loopS4
def bs0 (c i j : Int) (g : cmpT.den) (l : List Int) : Int := (bsG (fun h => ltOf g (l.getD h 0) (l.getD c.toNat 0)) (j.toNat - i.toNat) i.toNat j.toNat : Nat)
def bs2 (c i j : Int) (g : cmpT.den) (l : List Int) : Int := (bsG (fun h => !ltOf g (l.getD c.toNat 0) (l.getD h 0)) (j.toNat - i.toNat) i.toNat j.toNat : Nat)
def bs4 (p i j : Int) (g : cmpT.den) (l : List Int) : Int := (bsG (fun h => !ltOf g (l.getD (p.toNat - h) 0) (l.getD h 0)) (j.toNat - i.toNat) i.toNat j.toNat : Nat)
noncomputable def symT3 (n : Nat) (mid en b : Int) (g : cmpT.den) (l : List Int) : Fr (List Int × denL []) :=
 Fr.br (bif decide (mid < en) then decide (en < b) else false) (Fr.need (SymOk n mid en b (g.1, g.2) l) (Fr.val (((mSym n).f l (mid, en, b, (g.1, g.2), ())).1, ()))) (Fr.val (l, ()))
noncomputable def symT2 (n : Nat) (a st mid en b : Int) (g : cmpT.den) (l : List Int) : Fr (List Int × denL []) :=
 Fr.br (bif decide (a < st) then decide (st < mid) else false) (Fr.need (SymOk n a st mid (g.1, g.2) l) (symT3 n mid en b g ((mSym n).f l (a, st, mid, (g.1, g.2), ())).1)) (symT3 n mid en b g l)
noncomputable def symT1 (n : Nat) (a m b st mid en : Int) (g : cmpT.den) (l : List Int) : Fr (List Int × denL []) :=
 Fr.br (bif decide (st < m) then decide (m < en) else false)
  (Fr.need (0 <= st) (Fr.need (st < m) (Fr.need (m < en) (Fr.need (en <= (l.length : Int)) (Fr.need ((l.length : Int) <= 4611686018427387903) (symT2 n a st mid en b g (mRot.f l (st, m, en, (g.1, g.2), ())).1))))))
  (symT2 n a st mid en b g l)
noncomputable def symT0 (n : Nat) (a m b mid i j : Int) (g : cmpT.den) (l : List Int) : Fr (List Int × denL []) :=
 let p := IntKind.i64.wrap (IntKind.i64.wrap (mid + m) - 1)
 Fr.need (InvS4 p i j (g.1, g.2) l) (symT1 n a m b (bs4 p i j (g.1, g.2) l) mid (IntKind.i64.wrap (IntKind.i64.wrap (mid + m) - bs4 p i j (g.1, g.2) l)) g l)
noncomputable def fr_sym (n : Nat) (l : List Int) (x : denP [.d i64, .d i64, .d i64, cmpT]) : Fr (List Int × denL []) :=
 let a := x.1; let m := x.2.1; let b := x.2.2.1; let g := x.2.2.2.1
 Fr.br (IntKind.i64.wrap (m - a) == 1)
  (Fr.need (InvS0 a m b (g.1, g.2) l) (Fr.need (InvS1 (bs0 a m b (g.1, g.2) l) a l) (Fr.val (upS 0 (bs0 a m b (g.1, g.2) l - 1 - a).toNat a.toNat l, ()))))
  (Fr.br (IntKind.i64.wrap (b - m) == 1)
   (Fr.need (InvS2 m a m (g.1, g.2) l) (Fr.need (InvS3 (bs2 m a m (g.1, g.2) l) m l) (Fr.val (downS 0 (m - bs2 m a m (g.1, g.2) l).toNat m.toNat l, ()))))
   (Fr.need (¬(1 : Int) < 0)
    (Fr.br (decide (m > midI a b))
     (symT0 n a m b (midI a b) (IntKind.i64.wrap (IntKind.i64.wrap (midI a b + m) - b)) (midI a b) g l)
     (symT0 n a m b (midI a b) a m g l))))
theorem run_sym (n : Nat) (l : List Int) (x : denP [.d i64, .d i64, .d i64, cmpT]) : runMt Try.prog (CI2 n) ΛSym Try.f137 3 i64 [.d i64, .d i64, .d i64, cmpT] [] l x = some (fr_sym n l x) := by kernel_rfl
theorem bsG_bd {Q : Nat -> Bool} : (f i j : Nat) -> i <= j -> i <= bsG Q f i j /\ bsG Q f i j <= j
 | 0, i, j, h => ⟨Nat.le_refl _, h⟩
 | f + 1, i, j, h => by
  simp only [bsG]
  split
  ·cases Q ((i + j) / 2) with
   | true =>
    have := bsG_bd (Q := Q) f ((i + j) / 2 + 1) j (by omega)
    simp only [cond_true]
    omega
   | false =>
    have := bsG_bd (Q := Q) f i ((i + j) / 2) (by omega)
    simp only [cond_false]
    omega
  ·exact ⟨Nat.le_refl _, h⟩
structure Sym3 (lt : Int -> Int -> Bool) (key : Int -> Int) (a m b st : Nat) (l : List Int) : Prop where
 s1 : a <= st
 s2 : st <= m
 s3 : st <= (a + b) / 2
 s4 : (a + b) / 2 <= b
 e1 : m + st <= (a + b) / 2 + m
 e2 : (a + b) / 2 + m <= b + st
 len1 : (symR 0 m st ((a + b) / 2 + m - st) l).length = l.length
 same1 : SameK key l (symR 0 m st ((a + b) / 2 + m - st) l)
 sA1 : SortK key (seg a st (symR 0 m st ((a + b) / 2 + m - st) l))
 sB1 : SortK key (seg st ((a + b) / 2) (symR 0 m st ((a + b) / 2 + m - st) l))
 len2 : (if a < st /\ st < (a + b) / 2 then partB lt a ((a + b) / 2) (symR 0 m st ((a + b) / 2 + m - st) l) else symR 0 m st ((a + b) / 2 + m - st) l).length = l.length
 same2 : SameK key l (if a < st /\ st < (a + b) / 2 then partB lt a ((a + b) / 2) (symR 0 m st ((a + b) / 2 + m - st) l) else symR 0 m st ((a + b) / 2 + m - st) l)
 sA2 : SortK key (seg ((a + b) / 2) ((a + b) / 2 + m - st) (if a < st /\ st < (a + b) / 2 then partB lt a ((a + b) / 2) (symR 0 m st ((a + b) / 2 + m - st) l) else symR 0 m st ((a + b) / 2 + m - st) l))
 sB2 : SortK key (seg ((a + b) / 2 + m - st) b (if a < st /\ st < (a + b) / 2 then partB lt a ((a + b) / 2) (symR 0 m st ((a + b) / 2 + m - st) l) else symR 0 m st ((a + b) / 2 + m - st) l))
theorem sym3 {lt : Int -> Int -> Bool} {key : Int -> Int} {a m b : Nat} {l : List Int} (h1 : a < m) (h2 : m < b) (h3 : b <= l.length) (hl : LtK lt key l) (sA : SortK key (seg a m l)) (sB : SortK key (seg m b l)) :
  Sym3 lt key a m b (symS lt 0 a m b l) l := by
 obtain ⟨p, q, hL, hp, hA, hB, hq⟩ := seg_split (Nat.le_of_lt h1) (Nat.le_of_lt h2) h3
 have hAB : LtK lt key (seg a m l ++ seg m b l) := hl.sub fun z hz => by
  rw [hL]
  rcases List.mem_append.1 hz with h | h
  ·exact List.mem_append_right _ (List.mem_append_left _ h)
  ·exact List.mem_append_right _ (List.mem_append_right _ (List.mem_append_left _ h))
 obtain ⟨A1, A2, B1, B2, eA, eB, e1, e2, f1, f2⟩ := sym_parts (d := (0 : Int)) (q := q) hp hA hB h1 h2 hAB sA sB
 rw [← hL] at e1 e2
 rw [eA] at sA hA
 rw [eB] at sB hB
 rw [eA, eB] at hL
 generalize symS lt 0 a m b l = st at e1 e2 ⊢
 subst hL
 simp only [List.length_append] at hA hB h3
 have pA := List.pairwise_append.1 sA
 have pB := List.pairwise_append.1 sB
 have hen : (a + b) / 2 + m - st = m + B1.length := by omega
 have hR : symR 0 m st ((a + b) / 2 + m - st) (p ++ (A1 ++ A2 ++ (B1 ++ B2 ++ q))) = p ++ (A1 ++ (B1 ++ (A2 ++ (B2 ++ q)))) := by
  rw [hen]
  unfold symR
  split
  ·rename_i hc
   have := rotF_eq (d := (0 : Int)) (a := st) (m := m) (b := m + B1.length) (x := A2) (y := B1) (p := p ++ A1) (q := B2 ++ q) (by omega) (by omega) (by simp; omega) (by omega) rfl
   simpa using this
  ·rename_i hc
   by_cases hb1 : B1 = []
   ·subst hb1; simp
   ·have := List.length_pos_iff.2 hb1
    have : A2 = [] := List.length_eq_zero_iff.1 (by omega)
    subst this; simp
 have same1 : SameK key (p ++ (A1 ++ A2 ++ (B1 ++ B2 ++ q))) (p ++ (A1 ++ (B1 ++ (A2 ++ (B2 ++ q))))) := by
  have h := (SameK.refl p).app (((SameK.refl A1).app (SameK.swap (key := key) fun x hx y hy => by have := f2 y hy x hx; omega : SameK key (A2 ++ B1) (B1 ++ A2))).app (SameK.refl (B2 ++ q)))
  simpa using h
 have hl1 : LtK lt key (p ++ (A1 ++ (B1 ++ (A2 ++ (B2 ++ q))))) := hl.sub fun z hz => same1.mem.1 hz
 have g1 : seg a st (p ++ (A1 ++ (B1 ++ (A2 ++ (B2 ++ q))))) = A1 := seg_eq hp (by omega)
 have g2 : seg st ((a + b) / 2) (p ++ (A1 ++ (B1 ++ (A2 ++ (B2 ++ q))))) = B1 := by
  have := seg_eq (p := p ++ A1) (s := B1) (q := A2 ++ (B2 ++ q)) (a := st) (b := (a + b) / 2) (by simp; omega) (by omega)
  simpa using this
 have hX : ∀ T : List Int, T.length = A1.length + B1.length -> seg ((a + b) / 2) ((a + b) / 2 + m - st) (p ++ (T ++ (A2 ++ (B2 ++ q)))) = A2 /\ seg ((a + b) / 2 + m - st) b (p ++ (T ++ (A2 ++ (B2 ++ q)))) = B2 := fun T hT => by
  have k1 := seg_eq (p := p ++ T) (s := A2) (q := B2 ++ q) (a := (a + b) / 2) (b := (a + b) / 2 + m - st) (by simp; omega) (by omega)
  have k2 := seg_eq (p := p ++ T ++ A2) (s := B2) (q := q) (a := (a + b) / 2 + m - st) (b := b) (by simp; omega) (by omega)
  exact ⟨by simpa using k1, by simpa using k2⟩
 have hlen : (p ++ (A1 ++ (B1 ++ (A2 ++ (B2 ++ q))))).length = (p ++ (A1 ++ A2 ++ (B1 ++ B2 ++ q))).length := by simp; omega
 have hpart : a < st /\ st < (a + b) / 2 -> partB lt a ((a + b) / 2) (p ++ (A1 ++ (B1 ++ (A2 ++ (B2 ++ q))))) = p ++ (sortB lt (A1 ++ B1) ++ (A2 ++ (B2 ++ q))) := fun hc => by
  have := partB_eq (lt := lt) (a := a) (b := (a + b) / 2) (p := p) (s := A1 ++ B1) (q := A2 ++ (B2 ++ q)) hp (by simp; omega)
  simpa using this
 refine ⟨by omega, by omega, by omega, by omega, by omega, by omega, by rw [hR]; exact hlen, by rw [hR]; exact same1, by rw [hR, g1]; exact pA.1, by rw [hR, g2]; exact pB.1, ?_, ?_, ?_, ?_⟩
 ·rw [hR]
  split
  ·rw [partB_length (by omega) (by simp; omega)]
   exact hlen
  ·exact hlen
 ·rw [hR]
  split
  ·exact same1.trans (partB_same (by omega) (by simp; omega) hl1)
  ·exact same1
 ·rw [hR]
  split
  ·rename_i hc
   rw [hpart hc, (hX _ (by rw [sortB_length]; simp)).1]
   exact pA.2.1
  ·have := (hX (A1 ++ B1) (by simp)).1
   rw [show p ++ (A1 ++ (B1 ++ (A2 ++ (B2 ++ q)))) = p ++ ((A1 ++ B1) ++ (A2 ++ (B2 ++ q))) by simp, this]
   exact pA.2.1
 ·rw [hR]
  split
  ·rename_i hc
   rw [hpart hc, (hX _ (by rw [sortB_length]; simp)).2]
   exact pB.2.1
  ·have := (hX (A1 ++ B1) (by simp)).2
   rw [show p ++ (A1 ++ (B1 ++ (A2 ++ (B2 ++ q)))) = p ++ ((A1 ++ B1) ++ (A2 ++ (B2 ++ q))) by simp, this]
   exact pB.2.1
theorem symX_part {lt : Int -> Int -> Bool} {key : Int -> Int} {a m b : Nat} {l : List Int} (h1 : a < m) (h2 : m < b) (h3 : b <= l.length) (hl : LtK lt key l) (sA : SortK key (seg a m l)) (sB : SortK key (seg m b l)) :
  symX lt 0 a m b l = partB lt a b l := by
 obtain ⟨p, q, hL, hp, hA, hB, hq⟩ := seg_split (Nat.le_of_lt h1) (Nat.le_of_lt h2) h3
 generalize seg a m l = A at hL hA sA
 generalize seg m b l = B at hL hB sB
 subst hL
 have hAB : LtK lt key (A ++ B) := hl.sub fun z hz => by
  rcases List.mem_append.1 hz with h | h
  ·exact List.mem_append_right _ (List.mem_append_left _ h)
  ·exact List.mem_append_right _ (List.mem_append_right _ (List.mem_append_left _ h))
 rw [symX_eq hp hA hB h1 h2 hAB sA sB]
 have := partB_eq (lt := lt) (a := a) (b := b) (p := p) (s := A ++ B) (q := q) hp (by simp; omega)
 rw [← this]
 simp
theorem bif_dec (p q : Prop) [Decidable p] [Decidable q] : (bif decide p then decide q else false) = decide (p /\ q) := by
 by_cases p <;> by_cases q <;> simp_all
theorem symT3_ok {n : Nat} {mid en b : Nat} {g : cmpT.den} {l : List Int} (h : mid < en /\ en < b -> SymOk n mid en b g l) :
  (symT3 n mid en b g l).ok /\ (symT3 n mid en b g l).get = ((if mid < en /\ en < b then partB (ltOf g) mid b l else l), ()) := by
 unfold symT3
 have hd : (bif decide ((mid : Int) < en) then decide ((en : Int) < b) else false) = decide (mid < en /\ en < b) := by
  rw [bif_dec, decide_eq_decide]
  omega
 rw [hd]
 by_cases hc : mid < en /\ en < b
 ·rw [decide_eq_true hc, if_pos hc]
  exact ⟨⟨fun _ => ⟨h hc, trivial⟩, fun hb => by cases hb⟩, rfl⟩
 ·rw [decide_eq_false hc, if_neg hc]
  exact ⟨⟨fun hb => (by cases hb), fun _ => trivial⟩, rfl⟩
theorem symT2_ok {n : Nat} {a st mid en b : Nat} {g : cmpT.den} {l : List Int} (h : a < st /\ st < mid -> SymOk n a st mid g l)
  (k : mid < en /\ en < b -> SymOk n mid en b g (if a < st /\ st < mid then partB (ltOf g) a mid l else l)) :
  (symT2 n a st mid en b g l).ok /\ (symT2 n a st mid en b g l).get = ((if mid < en /\ en < b then partB (ltOf g) mid b (if a < st /\ st < mid then partB (ltOf g) a mid l else l) else (if a < st /\ st < mid then partB (ltOf g) a mid l else l)), ()) := by
 unfold symT2
 have hd : (bif decide ((a : Int) < st) then decide ((st : Int) < mid) else false) = decide (a < st /\ st < mid) := by
  rw [bif_dec, decide_eq_decide]
  omega
 rw [hd]
 by_cases hc : a < st /\ st < mid
 ·rw [if_pos hc] at k ⊢
  rw [decide_eq_true hc]
  obtain ⟨h1, h2⟩ := symT3_ok k
  exact ⟨⟨fun _ => ⟨h hc, h1⟩, fun hb => by cases hb⟩, h2⟩
 ·rw [if_neg hc] at k ⊢
  rw [decide_eq_false hc]
  obtain ⟨h1, h2⟩ := symT3_ok k
  exact ⟨⟨fun hb => (by cases hb), fun _ => h1⟩, h2⟩
theorem symT1_ok {n : Nat} {a m b st mid en : Nat} {g : cmpT.den} {l : List Int} (hen : en <= l.length) (hbig : (l.length : Int) <= 4611686018427387903)
  (h : a < st /\ st < mid -> SymOk n a st mid g (symR 0 m st en l))
  (k : mid < en /\ en < b -> SymOk n mid en b g (if a < st /\ st < mid then partB (ltOf g) a mid (symR 0 m st en l) else symR 0 m st en l)) :
  (symT1 n a m b st mid en g l).ok /\ (symT1 n a m b st mid en g l).get = ((if mid < en /\ en < b then partB (ltOf g) mid b (if a < st /\ st < mid then partB (ltOf g) a mid (symR 0 m st en l) else symR 0 m st en l) else (if a < st /\ st < mid then partB (ltOf g) a mid (symR 0 m st en l) else symR 0 m st en l)), ()) := by
 unfold symT1
 have hd : (bif decide ((st : Int) < m) then decide ((m : Int) < en) else false) = decide (st < m /\ m < en) := by
  rw [bif_dec, decide_eq_decide]
  omega
 rw [hd]
 by_cases hc : st < m /\ m < en
 ·have e : symR 0 m st en l = rotF 0 st m en l := by unfold symR; rw [if_pos hc]
  rw [e] at h k ⊢
  rw [decide_eq_true hc]
  obtain ⟨h1, h2⟩ := symT2_ok h k
  exact ⟨⟨fun _ => ⟨by omega, by omega, by omega, by omega, hbig, h1⟩, fun hb => by cases hb⟩, h2⟩
 ·have e : symR 0 m st en l = l := by unfold symR; rw [if_neg hc]
  rw [e] at h k ⊢
  rw [decide_eq_false hc]
  obtain ⟨h1, h2⟩ := symT2_ok h k
  exact ⟨⟨fun hb => (by cases hb), fun _ => h1⟩, h2⟩
theorem sym_plain (n a m b : Nat) (g : cmpT.den) (l : List Int) (h : SymOk (n + 1) a m b g l) : (fr_sym n l ((a : Int), (m : Int), (b : Int), g, ())).ok /\ (fr_sym n l ((a : Int), (m : Int), (b : Int), g, ())).get = (partB (ltOf g) a b l, ()) := by
 obtain ⟨_, h1, h2, h3, hbig, hsize, hdom, key, hl, sA, sB⟩ := h
 simp only [Int.toNat_natCast] at sA sB
 have h1' : a < m := by omega
 have h2' : m < b := by omega
 have h3' : b <= l.length := by omega
 have hX := symX_part h1' h2' h3' hl sA sB
 rw [← hX]
 have w1 : IntKind.i64.wrap ((m : Int) - a) = (m - a : Nat) := sub_nat (by omega) (by omega)
 have w2 : IntKind.i64.wrap ((b : Int) - m) = (b - m : Nat) := sub_nat (by omega) (by omega)
 have hmid : midI (a : Int) b = ((a + b) / 2 : Nat) := midI_nat (by omega)
 dsimp only [fr_sym]
 rw [w1, w2, hmid]
 by_cases c1 : m - a = 1
 ·have hc : (((m - a : Nat) : Int) == 1) = true := by rw [c1]; rfl
  rw [hc]
  unfold symX
  rw [if_pos c1]
  obtain ⟨r1, r2⟩ := bsG_bd (Q := fun h => ltOf g (l.getD h 0) (l.getD a 0)) (b - m) m b (by omega)
  have hb0 : bs0 (a : Int) m b g l = (bsG (fun h => ltOf g (l.getD h 0) (l.getD a 0)) (b - m) m b : Nat) := rfl
  have e : (g.1, g.2) = g := rfl
  simp only [e]
  rw [hb0]
  generalize bsG (fun h => ltOf g (l.getD h 0) (l.getD a 0)) (b - m) m b = r at r1 r2 ⊢
  refine ⟨⟨fun _ => ⟨⟨by omega, by omega, by omega, by omega, by omega, hbig, hdom⟩, ⟨by omega, by omega, by omega, hbig⟩, trivial⟩, fun hb => by cases hb⟩, ?_⟩
  show (upS 0 ((r : Int) - 1 - a).toNat (a : Int).toNat l, ()) = _
  rw [show ((r : Int) - 1 - a).toNat = r - 1 - a by omega]
  rfl
 ·have hc : (((m - a : Nat) : Int) == 1) = false := by rw [beq_eq_false_iff_ne]; omega
  rw [hc]
  by_cases c2 : b - m = 1
  ·have hc : (((b - m : Nat) : Int) == 1) = true := by rw [c2]; rfl
   rw [hc]
   unfold symX
   rw [if_neg c1, if_pos c2]
   obtain ⟨r1, r2⟩ := bsG_bd (Q := fun h => !ltOf g (l.getD m 0) (l.getD h 0)) (m - a) a m (by omega)
   have hb0 : bs2 (m : Int) a m g l = (bsG (fun h => !ltOf g (l.getD m 0) (l.getD h 0)) (m - a) a m : Nat) := rfl
   have e : (g.1, g.2) = g := rfl
   simp only [e]
   rw [hb0]
   generalize bsG (fun h => !ltOf g (l.getD m 0) (l.getD h 0)) (m - a) a m = r at r1 r2 ⊢
   refine ⟨⟨fun hb => (by cases hb), fun _ => ⟨fun _ => ⟨⟨by omega, by omega, by omega, by omega, by omega, hbig, hdom⟩, ⟨by omega, by omega, by omega, hbig⟩, trivial⟩, fun hb => by cases hb⟩⟩, ?_⟩
   show (downS 0 ((m : Int) - r).toNat (m : Int).toNat l, ()) = _
   rw [show ((m : Int) - r).toNat = m - r by omega]
   rfl
  ·have hc : (((b - m : Nat) : Int) == 1) = false := by rw [beq_eq_false_iff_ne]; omega
   rw [hc]
   have s3 := sym3 h1' h2' h3' hl sA sB
   have key3 : ∀ i j : Nat, (i = if (a + b) / 2 < m then (a + b) / 2 + m - b else a) -> (j = if (a + b) / 2 < m then (a + b) / 2 else m) ->
     (symT0 n a m b ((a + b) / 2 : Nat) i j g l).ok /\ (symT0 n a m b ((a + b) / 2 : Nat) i j g l).get = (symX (ltOf g) 0 a m b l, ()) := fun i j hi hj => by
    have wp : IntKind.i64.wrap (IntKind.i64.wrap ((((a + b) / 2 : Nat) : Int) + m) - 1) = ((a + b) / 2 + m - 1 : Nat) := by
     rw [add_nat (by omega), pred_nat (by omega) (by omega)]
    have hS : bs4 (((a + b) / 2 + m - 1 : Nat) : Int) i j g l = (symS (ltOf g) 0 a m b l : Nat) := by
     unfold bs4 symS
     simp only [Int.toNat_natCast]
     rw [← hi, ← hj]
    dsimp only [symT0]
    have e : (g.1, g.2) = g := rfl
    rw [wp, e, hS]
    have we : IntKind.i64.wrap (IntKind.i64.wrap ((((a + b) / 2 : Nat) : Int) + m) - (symS (ltOf g) 0 a m b l : Nat)) = ((a + b) / 2 + m - symS (ltOf g) 0 a m b l : Nat) := by
     have := s3.s3
     rw [add_nat (by omega), sub_nat (by omega) (by omega)]
    rw [we]
    have hSx : symX (ltOf g) 0 a m b l = (if (a + b) / 2 < (a + b) / 2 + m - symS (ltOf g) 0 a m b l /\ (a + b) / 2 + m - symS (ltOf g) 0 a m b l < b then partB (ltOf g) ((a + b) / 2) b (if a < symS (ltOf g) 0 a m b l /\ symS (ltOf g) 0 a m b l < (a + b) / 2 then partB (ltOf g) a ((a + b) / 2) (symR 0 m (symS (ltOf g) 0 a m b l) ((a + b) / 2 + m - symS (ltOf g) 0 a m b l) l) else symR 0 m (symS (ltOf g) 0 a m b l) ((a + b) / 2 + m - symS (ltOf g) 0 a m b l) l) else (if a < symS (ltOf g) 0 a m b l /\ symS (ltOf g) 0 a m b l < (a + b) / 2 then partB (ltOf g) a ((a + b) / 2) (symR 0 m (symS (ltOf g) 0 a m b l) ((a + b) / 2 + m - symS (ltOf g) 0 a m b l) l) else symR 0 m (symS (ltOf g) 0 a m b l) ((a + b) / 2 + m - symS (ltOf g) 0 a m b l) l)) := by
     conv => lhs; unfold symX
     rw [if_neg c1, if_neg c2]
    rw [hSx]
    generalize symS (ltOf g) 0 a m b l = st at s3 ⊢
    obtain ⟨q1, q2, q3, q4, q5, q6, len1, same1, sA1, sB1, len2, same2, sA2, sB2⟩ := s3
    obtain ⟨o1, o2⟩ := symT1_ok (n := n) (a := a) (m := m) (b := b) (st := st) (mid := (a + b) / 2) (en := (a + b) / 2 + m - st) (g := g) (l := l) (by omega) hbig
     (fun hc => ⟨by omega, by omega, by omega, by omega, by omega, by omega, hdom.sub fun z hz => same1.mem.1 hz, key, hl.sub fun z hz => same1.mem.1 hz, sA1, sB1⟩)
     (fun hc => ⟨by omega, by omega, by omega, by omega, by omega, by omega, hdom.sub fun z hz => same2.mem.1 hz, key, hl.sub fun z hz => same2.mem.1 hz, sA2, sB2⟩)
    refine ⟨⟨?_, o1⟩, o2⟩
    refine ⟨by omega, ?_, ?_, by omega, ?_, ?_, hbig, hdom⟩ <;> (subst hi hj; split <;> omega)
   by_cases cm : m > (a + b) / 2
   ·have hd : decide ((m : Int) > ((a + b) / 2 : Nat)) = true := decide_eq_true (by omega)
    rw [hd]
    have wi : IntKind.i64.wrap (IntKind.i64.wrap ((((a + b) / 2 : Nat) : Int) + m) - b) = ((a + b) / 2 + m - b : Nat) := by
     rw [add_nat (by omega), sub_nat (by omega) (by omega)]
    rw [wi]
    obtain ⟨k1, k2⟩ := key3 ((a + b) / 2 + m - b) ((a + b) / 2) (by rw [if_pos (by omega)]) (by rw [if_pos (by omega)])
    exact ⟨⟨fun hb => (by cases hb), fun _ => ⟨fun hb => (by cases hb), fun _ => ⟨by omega, fun _ => k1, fun hb => by cases hb⟩⟩⟩, k2⟩
   ·have hd : decide ((m : Int) > ((a + b) / 2 : Nat)) = false := decide_eq_false (by omega)
    rw [hd]
    obtain ⟨k1, k2⟩ := key3 a m (by rw [if_neg (by omega)]) (by rw [if_neg (by omega)])
    exact ⟨⟨fun hb => (by cases hb), fun _ => ⟨fun hb => (by cases hb), fun _ => ⟨by omega, fun hb => (by cases hb), fun _ => k1⟩⟩⟩, k2⟩
theorem sym_ok : (n : Nat) -> SoundMt Try.prog 137 (mSym n)
 | 0 => by
  have hf : Try.prog.funcs[137]? = some Try.f137 := by kernel_rfl
  obtain ⟨c, hb⟩ : ∃ c, Try.f137.body = some c := ⟨_, rfl⟩
  refine ⟨rfl, rfl, enters hf hb (by kernel_rfl), fun w F l xs v vs rows _ _ _ _ _ _ _ hok => ?_⟩
  have h : SymOk 0 xs.1 xs.2.1 xs.2.2.1 xs.2.2.2.1 l := hok
  have h1 := h.am
  have h2 := h.mb
  have h3 := h.size
  omega
 | n + 1 => by
  refine convMt (mt_sound (CI2_ok (sym_ok n)) (Λ := ΛSym) (fn := Try.f137) (fr := fr_sym n) (e := 3) (T := i64) (ps := [.d i64, .d i64, .d i64, cmpT]) (rs := []) (0, 0, 0, (fun _ => (0, ()), fun _ => True), ()) (by kernel_rfl) rfl rfl
   (fun c E hc => lam_sym hc) (run_sym n)) _ _ fun w F l xs vs _ _ _ hok => ?_
  obtain ⟨a, m, b, g, rfl⟩ : ∃ (a m b : Int) (g : cmpT.den), xs = (a, m, b, g, ()) := ⟨xs.1, xs.2.1, xs.2.2.1, xs.2.2.2.1, rfl⟩
  have h : SymOk (n + 1) a m b g l := hok
  have h0 := h.a0
  have h1 := h.am
  have h2 := h.mb
  obtain ⟨a', rfl⟩ : ∃ n : Nat, a = n := ⟨a.toNat, by omega⟩
  obtain ⟨m', rfl⟩ : ∃ n : Nat, m = n := ⟨m.toNat, by omega⟩
  obtain ⟨b', rfl⟩ : ∃ n : Nat, b = n := ⟨b.toNat, by omega⟩
  exact sym_plain n a' m' b' g l h
theorem blkW_enough {lt : Int -> Int -> Bool} {w n : Nat} (hw : 0 < w) : (f f' a : Nat) -> (l : List Int) -> n < f + a -> n < f' + a -> blkW lt w n f a l = blkW lt w n f' a l
 | 0, 0, _, _, _, _ => rfl
 | 0, f' + 1, a, l, h, _ => by simp only [blkW]; rw [if_neg (by omega)]
 | f + 1, 0, a, l, _, h => by simp only [blkW]; rw [if_neg (by omega)]
 | f + 1, f' + 1, a, l, h, h' => by
  simp only [blkW]
  split
  ·exact blkW_enough hw f f' _ _ (by omega) (by omega)
  ·rfl
theorem passes_enough {lt : Int -> Int -> Bool} {n : Nat} : (f f' w : Nat) -> (l : List Int) -> 0 < w -> n <= f + w -> n <= f' + w -> passes lt n f w l = passes lt n f' w l
 | 0, 0, _, _, _, _, _ => rfl
 | 0, f' + 1, w, l, hw, h, _ => by simp only [passes]; rw [if_neg (by omega)]
 | f + 1, 0, w, l, hw, _, h => by simp only [passes]; rw [if_neg (by omega)]
 | f + 1, f' + 1, w, l, hw, h, h' => by
  simp only [passes]
  split
  ·exact passes_enough f f' _ _ (by omega) (by omega) (by omega)
  ·rfl
abbrev big : Nat := 4611686018427387903
noncomputable def CI3 : Cx := cxK [] [] (orK (mtK (cx [] []).Γ 136 mInsert) (mtK (cx [] []).Γ 137 (mSym big)))
theorem CI3_ok : CxOK Try.prog CI3 := cxK_ok mixed trivial trivial (orK_ok (mtK_ok CI0_ok.ct insert_ok) (mtK_ok CI0_ok.ct (sym_ok big)))
abbrev pt_blk : Pt := ⟨63, 0, ⟨[(1, .d i64), (2, cmpT), (6, .d i64), (7, .d i64), (8, .d i64)], [.al 10000 0, .o 0 3 i64]⟩, ⟨[(1, .d i64), (2, cmpT), (6, .d i64), (7, .d i64)], [.al 10000 0, .o 0 3 i64]⟩, ⟨[], []⟩⟩
noncomputable def fr_blk (x : pt_blk.M.X) : Fr pt_blk.Out :=
 let n := x.1.1; let g := x.1.2.1; let bs := x.1.2.2.1; let a := x.1.2.2.2.1; let b := x.1.2.2.2.2.1; let l := x.2.1
 Fr.br (decide (b <= n))
  (Fr.need (0 <= a)
   (Fr.need (a <= b)
    (Fr.need (b <= (l.length : Int))
     (Fr.need ((l.length : Int) <= 4611686018427387903)
      (Fr.need (OrdOf (g.1, g.2) l)
       (Fr.val (Rd.next ((n, (g.1, g.2), bs, b, IntKind.i64.wrap (b + bs), ()), ((mInsert.f l (a, b, (g.1, g.2), ())).1, ())))))))))
  (Fr.val (Rd.out ((n, (g.1, g.2), bs, a, ()), (l, ()))))
theorem sem_blk : Does Try.prog (loopF Try.f125 0) pt_blk.M pt_blk fr_blk :=
 Does.of_run CI3_ok (bs := 0) (Λ := lam0) rfl rfl rfl (fun E => lam0_ok _ 0) (fun x => by kernel_rfl)
structure InvBlk (n bs a b : Int) (g : cmpT.den) (l : List Int) : Prop where
 nl : n = l.length
 big : n <= 4611686018427387903
 bs0 : bs = 20
 a0 : 0 <= a
 an : a <= n
 ab : b = a + 20
 ord : OrdOf g l
def blkI (n a : Int) (g : cmpT.den) (l : List Int) : Nat × List Int := blkW (ltOf g) 20 n.toNat (n.toNat + 1) a.toNat l
def FBlk (x : pt_blk.M.X) : Fr pt_blk.Out :=
 let n := x.1.1; let g := x.1.2.1; let bs := x.1.2.2.1; let a := x.1.2.2.2.1; let b := x.1.2.2.2.2.1; let l := x.2.1
 Fr.need (InvBlk n bs a b g l) (Fr.val (Rd.out ((n, g, bs, ((blkI n a g l).1 : Nat), ()), ((blkI n a g l).2, ()))))
theorem partB_mem {lt : Int -> Int -> Bool} {a b : Nat} {l : List Int} {x : Int} (h : x ∈ partB lt a b l) : x ∈ l := by
 unfold partB at h
 rcases List.mem_append.1 h with h | h
 ·exact List.mem_of_mem_take h
 ·rcases List.mem_append.1 h with h | h
  ·exact List.mem_of_mem_take (List.mem_of_mem_drop (sortB_mem.1 h))
  ·exact List.mem_of_mem_drop h
theorem lawBlk (n bs a b : Int) (g : cmpT.den) (l : List Int) (hinv : InvBlk n bs a b g l) (Q : pt_blk.Out -> Prop)
  (hq : Q (Rd.out ((n, g, bs, ((blkI n a g l).1 : Nat), ()), ((blkI n a g l).2, ())))) : (fr_blk ((n, g, bs, a, b, ()), (l, ()))).satP fun
   | .next x' => InvBlk x'.1.1 x'.1.2.2.1 x'.1.2.2.2.1 x'.1.2.2.2.2.1 x'.1.2.1 x'.2.1 /\ (x'.1.1 - x'.1.2.2.2.1).toNat < (n - a).toNat /\ (FBlk x').satP Q
   | .out y => Q (.out y)
   | .back z => Q (.back z)
   | .pan p => Q (.pan p) := by
 obtain ⟨h0, h1, h2, h3, h4, h5, h6⟩ := hinv
 subst h2 h5
 dsimp only [fr_blk, Fr.satP, Ty.den, PT.den, mInsert]
 refine ⟨fun hi => ?_, fun hi => ?_⟩
 ·have hle : a + 20 <= n := of_decide_eq_true hi
  have w : IntKind.i64.wrap (a + 20 + 20) = a + 20 + 20 := IntWalk.i64_in _ (by omega)
  rw [w]
  have hlen : (partB (ltOf g) a.toNat (a + 20).toNat l).length = l.length := partB_length (by omega) (by omega)
  have hI : InvBlk n 20 (a + 20) (a + 20 + 20) g (partB (ltOf g) a.toNat (a + 20).toNat l) := ⟨by rw [hlen]; exact h0, h1, rfl, by omega, hle, rfl, h6.sub fun x hx => partB_mem hx⟩
  refine ⟨h3, by omega, by omega, by omega, h6, hI, by omega, hI, ?_⟩
  have e : blkI n a g l = blkI n (a + 20) g (partB (ltOf g) a.toNat (a + 20).toNat l) := by
   unfold blkI
   rw [show n.toNat + 1 = n.toNat + 1 from rfl]
   conv => lhs; unfold blkW
   rw [if_pos (by omega), show a.toNat + 20 = (a + 20).toNat by omega]
   exact blkW_enough (by omega) _ _ _ _ (by omega) (by omega)
  rw [e] at hq
  exact hq
 ·have hgt : ¬ a + 20 <= n := of_decide_eq_false hi
  have e : blkI n a g l = (a.toNat, l) := by
   unfold blkI blkW
   rw [if_neg (by omega)]
  rw [e] at hq
  have e2 : ((a.toNat : Nat) : Int) = a := by omega
  simp only [e2] at hq
  exact hq
theorem loopBlk : Does Try.prog (.loop (loopF Try.f125 0)) pt_blk.M pt_blk FBlk := by
 refine Does.loop (n := 63) (id := 0) sem_blk (inv := fun x => InvBlk x.1.1 x.1.2.2.1 x.1.2.2.2.1 x.1.2.2.2.2.1 x.1.2.1 x.2.1) (μ := fun x => (x.1.1 - x.1.2.2.2.1).toNat) ?_ (fun x Q h => h.1)
 rintro ⟨⟨n, g, bs, a, b, _⟩, ⟨l, _⟩⟩ hinv Q hq
 exact lawBlk n bs a b g l hinv Q hq.2
abbrev pt_pas : Pt := ⟨63, 4, ⟨[(1, .d i64), (2, cmpT), (6, .d i64), (7, .d i64), (8, .d i64)], [.al 10000 0, .o 0 3 i64]⟩, ⟨[(1, .d i64), (2, cmpT), (6, .d i64), (7, .d i64)], [.al 10000 0, .o 0 3 i64]⟩, ⟨[], []⟩⟩
noncomputable def pasCode : Code := ((Go.Ab.loopB (loopF Try.f125 1) 0).getD .skip)
noncomputable def fr_pas (x : pt_pas.M.X) : Fr pt_pas.Out :=
 let n := x.1.1; let g := x.1.2.1; let bs := x.1.2.2.1; let a := x.1.2.2.2.1; let b := x.1.2.2.2.2.1; let l := x.2.1
 Fr.br (decide (b <= n))
  (Fr.need (SymOk big a (IntKind.i64.wrap (a + bs)) b (g.1, g.2) l)
   (Fr.val (Rd.next ((n, (g.1, g.2), bs, b, IntKind.i64.wrap (b + IntKind.i64.wrap (2 * bs)), ()), (((mSym big).f l (a, IntKind.i64.wrap (a + bs), b, (g.1, g.2), ())).1, ())))))
  (Fr.val (Rd.out ((n, (g.1, g.2), bs, a, ()), (l, ()))))
theorem sem_pas : Does Try.prog pasCode pt_pas.M pt_pas fr_pas :=
 Does.of_run CI3_ok (bs := 0) (Λ := lam0) rfl rfl rfl (fun E => lam0_ok _ 0) (fun x => by kernel_rfl)
structure InvPas (n bs a b : Int) (g : cmpT.den) (l : List Int) : Prop where
 nl : n = l.length
 big : n <= 4611686018427387903
 bs0 : 0 < bs
 bsn : bs < n
 a0 : 0 <= a
 an : a <= n
 ab : b = a + 2 * bs
 mul : ∃ c : Nat, a.toNat = c * (2 * bs.toNat)
 dom : DomOf g l
 key : ∃ key : Int -> Int, LtK (ltOf g) key l /\ ∀ k : Nat, a.toNat <= k * bs.toNat -> SortK key (seg (k * bs.toNat) (k * bs.toNat + bs.toNat) l)
def pasI (n bs a : Int) (g : cmpT.den) (l : List Int) : Nat × List Int := blkW (ltOf g) (2 * bs.toNat) n.toNat (n.toNat + 1) a.toNat l
def FPas (x : pt_pas.M.X) : Fr pt_pas.Out :=
 let n := x.1.1; let g := x.1.2.1; let bs := x.1.2.2.1; let a := x.1.2.2.2.1; let b := x.1.2.2.2.2.1; let l := x.2.1
 Fr.need (InvPas n bs a b g l) (Fr.val (Rd.out ((n, g, bs, ((pasI n bs a g l).1 : Nat), ()), ((pasI n bs a g l).2, ()))))
theorem lawPas (n bs a b : Int) (g : cmpT.den) (l : List Int) (hinv : InvPas n bs a b g l) (Q : pt_pas.Out -> Prop)
  (hq : Q (Rd.out ((n, g, bs, ((pasI n bs a g l).1 : Nat), ()), ((pasI n bs a g l).2, ())))) : (fr_pas ((n, g, bs, a, b, ()), (l, ()))).satP fun
   | .next x' => InvPas x'.1.1 x'.1.2.2.1 x'.1.2.2.2.1 x'.1.2.2.2.2.1 x'.1.2.1 x'.2.1 /\ (x'.1.1 - x'.1.2.2.2.1).toNat < (n - a).toNat /\ (FPas x').satP Q
   | .out y => Q (.out y)
   | .back z => Q (.back z)
   | .pan p => Q (.pan p) := by
 obtain ⟨h0, h1, h2, h3, h4, h5, h6, ⟨c, h7⟩, h8, key, h9, h10⟩ := hinv
 subst h6
 dsimp only [fr_pas, Fr.satP, Ty.den, PT.den, mSym]
 have w1 : IntKind.i64.wrap (a + bs) = a + bs := IntWalk.i64_in _ (by omega)
 have w2 : IntKind.i64.wrap (2 * bs) = 2 * bs := IntWalk.i64_in _ (by omega)
 rw [w1, w2]
 refine ⟨fun hi => ?_, fun hi => ?_⟩
 ·have hle : a + 2 * bs <= n := of_decide_eq_true hi
  have hle' : a.toNat + 2 * bs.toNat <= l.length := by omega
  have hseg1 : SortK key (seg a.toNat (a + bs).toNat l) := by
   have := h10 (2 * c) (by rw [h7, ← Nat.mul_assoc, Nat.mul_comm c 2]; exact Nat.le_refl _)
   rwa [show 2 * c * bs.toNat = a.toNat by rw [h7, ← Nat.mul_assoc, Nat.mul_comm c 2], show a.toNat + bs.toNat = (a + bs).toNat by omega] at this
  have hseg2 : SortK key (seg (a + bs).toNat (a + 2 * bs).toNat l) := by
   have e : (2 * c + 1) * bs.toNat = (a + bs).toNat := by
    rw [Nat.succ_mul, show 2 * c * bs.toNat = a.toNat by rw [h7, ← Nat.mul_assoc, Nat.mul_comm c 2]]
    omega
   have := h10 (2 * c + 1) (by omega)
   rwa [e, show (a + bs).toNat + bs.toNat = (a + 2 * bs).toNat by omega] at this
  have hlen : (partB (ltOf g) a.toNat (a + 2 * bs).toNat l).length = l.length := partB_length (by omega) (by omega)
  by_cases hbig : a + 2 * bs + 2 * bs <= 9223372036854775807
  ·have w3 : IntKind.i64.wrap (a + 2 * bs + 2 * bs) = a + 2 * bs + 2 * bs := IntWalk.i64_in _ (by omega)
   rw [w3]
   have hI : InvPas n bs (a + 2 * bs) (a + 2 * bs + 2 * bs) g (partB (ltOf g) a.toNat (a + 2 * bs).toNat l) := ⟨by rw [hlen]; exact h0, h1, h2, h3, by omega, hle, rfl, ⟨c + 1, by rw [Nat.succ_mul, ← h7]; omega⟩, h8.sub fun x hx => partB_mem hx, key, h9.sub fun x hx => partB_mem hx, fun k hk => by
    rw [seg_of_drop (c := (a + 2 * bs).toNat) (drop_partB (by omega) (by omega) (Nat.le_refl _)) hk]
    exact h10 k (by omega)⟩
   refine ⟨⟨h4, by omega, by omega, by omega, by omega, by simp only [big]; omega, h8, key, h9, hseg1, hseg2⟩, hI, by omega, hI, ?_⟩
   have e : pasI n bs a g l = pasI n bs (a + 2 * bs) g (partB (ltOf g) a.toNat (a + 2 * bs).toNat l) := by
    unfold pasI
    conv => lhs; unfold blkW
    rw [if_pos (by omega), show a.toNat + 2 * bs.toNat = (a + 2 * bs).toNat by omega]
    exact blkW_enough (by omega) _ _ _ _ (by omega) (by omega)
   rw [e] at hq
   exact hq
  ·exfalso
   omega
 ·have hgt : ¬ a + 2 * bs <= n := of_decide_eq_false hi
  have e : pasI n bs a g l = (a.toNat, l) := by
   unfold pasI blkW
   rw [if_neg (by omega)]
  rw [e] at hq
  have e2 : ((a.toNat : Nat) : Int) = a := by omega
  simp only [e2] at hq
  exact hq
theorem loopPas : Does Try.prog (.loop pasCode) pt_pas.M pt_pas FPas := by
 refine Does.loop (n := 63) (id := 4) sem_pas (inv := fun x => InvPas x.1.1 x.1.2.2.1 x.1.2.2.2.1 x.1.2.2.2.2.1 x.1.2.1 x.2.1) (μ := fun x => (x.1.1 - x.1.2.2.2.1).toNat) ?_ (fun x Q h => h.1)
 rintro ⟨⟨n, g, bs, a, b, _⟩, ⟨l, _⟩⟩ hinv Q hq
 exact lawPas n bs a b g l hinv Q hq.2
noncomputable def ΛPas : Nat -> St -> Option Tr := fun _ => pt_pas.han CI3.Γ pt_pas.M FPas
abbrev pt_all : Pt := ⟨63, 2, ⟨[(1, .d i64), (2, cmpT), (6, .d i64)], [.al 10000 0, .o 0 3 i64]⟩, ⟨[], [.al 10000 0, .o 0 3 i64]⟩, ⟨[], []⟩⟩
noncomputable def fr_all (x : pt_all.M.X) : Fr pt_all.Out :=
 let n := x.1.1; let g := x.1.2.1; let bs := x.1.2.2.1; let l := x.2.1
 let r := pasI n bs 0 (g.1, g.2) l
 Fr.br (decide (bs < n))
  (Fr.need (InvPas n bs 0 (IntKind.i64.wrap (2 * bs)) (g.1, g.2) l)
   (Fr.br (decide (IntKind.i64.wrap ((r.1 : Int) + bs) < n))
    (Fr.need (SymOk big r.1 (IntKind.i64.wrap ((r.1 : Int) + bs)) n (g.1, g.2) r.2)
     (Fr.val (Rd.next ((n, (g.1, g.2), IntKind.i64.wrap (bs * 2), ()), (((mSym big).f r.2 ((r.1 : Int), IntKind.i64.wrap ((r.1 : Int) + bs), n, (g.1, g.2), ())).1, ())))))
    (Fr.val (Rd.next ((n, (g.1, g.2), IntKind.i64.wrap (bs * 2), ()), (r.2, ()))))))
  (Fr.val (Rd.out ((), (l, ()))))
theorem lam_pas {E : Env} : LamOK Try.prog E ΛPas (loopF Try.f125 1) 0 :=
 lam1 (b := pasCode) (by kernel_rfl) (by kernel_rfl) (Does.han CI3_ok rfl loopPas)
theorem sem_all : Does Try.prog (loopF Try.f125 1) pt_all.M pt_all fr_all :=
 Does.of_run CI3_ok (bs := 0) (Λ := ΛPas) rfl rfl rfl (fun E => lam_pas) (fun x => by kernel_rfl)
structure InvAll (n bs : Int) (g : cmpT.den) (l : List Int) : Prop where
 nl : n = l.length
 big : n <= 4611686018427387903
 bs0 : 0 < bs
 dom : DomOf g l
 key : ∃ key : Int -> Int, LtK (ltOf g) key l /\ BlkS key bs.toNat l
def FAll (x : pt_all.M.X) : Fr pt_all.Out :=
 let n := x.1.1; let g := x.1.2.1; let bs := x.1.2.2.1; let l := x.2.1
 Fr.need (InvAll n bs g l) (Fr.val (Rd.out ((), (passes (ltOf g) n.toNat n.toNat bs.toNat l, ()))))
theorem lawAll (n bs : Int) (g : cmpT.den) (l : List Int) (hinv : InvAll n bs g l) (Q : pt_all.Out -> Prop)
  (hq : Q (Rd.out ((), (passes (ltOf g) n.toNat n.toNat bs.toNat l, ())))) : (fr_all ((n, g, bs, ()), (l, ()))).satP fun
   | .next x' => InvAll x'.1.1 x'.1.2.2.1 x'.1.2.1 x'.2.1 /\ (x'.1.1 - x'.1.2.2.1).toNat < (n - bs).toNat /\ (FAll x').satP Q
   | .out y => Q (.out y)
   | .back z => Q (.back z)
   | .pan p => Q (.pan p) := by
 obtain ⟨h0, h1, h2, h3, key, h4, h5⟩ := hinv
 dsimp only [fr_all, Fr.satP, Ty.den, PT.den, mSym]
 refine ⟨fun hi => ?_, fun hi => ?_⟩
 ·have hlt : bs < n := of_decide_eq_true hi
  have w1 : IntKind.i64.wrap (2 * bs) = 2 * bs := IntWalk.i64_in _ (by omega)
  have w2 : IntKind.i64.wrap (bs * 2) = bs * 2 := IntWalk.i64_in _ (by omega)
  have hr := blkW_spec (key := key) (lt := ltOf g) (w := 2 * bs.toNat) (n := n.toNat) (by omega) (n.toNat + 1) 0 l (by omega) (by omega) (by omega) ⟨0, by simp⟩ h4 (fun k hk => by omega)
  obtain ⟨p1, p2, p3⟩ := passB_spec (lt := ltOf g) (w := bs.toNat) (n := n.toNat) (l := l) (key := key) (by omega) (by omega) h4 h5
  have hpas : passB (ltOf g) bs.toNat n.toNat l = if (pasI n bs 0 g l).1 + bs.toNat < n.toNat then partB (ltOf g) (pasI n bs 0 g l).1 n.toNat (pasI n bs 0 g l).2 else (pasI n bs 0 g l).2 := rfl
  have hstep : passes (ltOf g) n.toNat n.toNat bs.toNat l = passes (ltOf g) n.toNat n.toNat (bs * 2).toNat (passB (ltOf g) bs.toNat n.toNat l) := by
   obtain ⟨f, hf⟩ : ∃ f, n.toNat = f + 1 := ⟨n.toNat - 1, by omega⟩
   conv => lhs; rw [show passes (ltOf g) n.toNat n.toNat bs.toNat l = passes (ltOf g) n.toNat (f + 1) bs.toNat l by rw [← hf]]
   simp only [passes]
   rw [if_pos (by omega), show (bs * 2).toNat = 2 * bs.toNat by omega]
   exact passes_enough _ _ _ _ (by omega) (by omega) (by omega)
  have hI : InvAll n (bs * 2) g (passB (ltOf g) bs.toNat n.toNat l) := ⟨by omega, h1, by omega, h3.sub fun x hx => p2.mem.1 hx, key, h4.sub fun x hx => p2.mem.1 hx, by rw [show (bs * 2).toNat = 2 * bs.toNat by omega]; exact p1⟩
  have hfin : InvAll n (bs * 2) g (passB (ltOf g) bs.toNat n.toNat l) /\ (n - bs * 2).toNat < (n - bs).toNat /\ InvAll n (bs * 2) g (passB (ltOf g) bs.toNat n.toNat l) /\ Q (Rd.out ((), (passes (ltOf g) n.toNat n.toNat (bs * 2).toNat (passB (ltOf g) bs.toNat n.toNat l), ()))) := ⟨hI, by omega, hI, by rw [← hstep]; exact hq⟩
  rw [w1, w2]
  have hb : (blkW (ltOf g) (2 * bs.toNat) n.toNat (n.toNat + 1) 0 l) = pasI n bs 0 g l := rfl
  rw [hb] at hr
  refine ⟨⟨h0, h1, h2, hlt, Int.le_refl _, by omega, by omega, ⟨0, by simp⟩, h3, key, h4, fun k _ => h5 k⟩, ?_⟩
  have e : (g.1, g.2) = g := rfl
  simp only [e]
  generalize pasI n bs 0 g l = r at hr hpas ⊢
  obtain ⟨⟨c, hc⟩, q2, q3, q4, q5, q6, q7⟩ := hr
  have w3 : IntKind.i64.wrap ((r.1 : Int) + bs) = r.1 + bs := IntWalk.i64_in _ (by omega)
  rw [w3]
  refine ⟨fun hj => ?_, fun hj => ?_⟩
  ·have hj' : (r.1 : Int) + bs < n := of_decide_eq_true hj
   rw [if_pos (by omega)] at hpas
   have hd : r.2.drop r.1 = l.drop r.1 := q6
   have hm1 : 2 * c * bs.toNat = r.1 := by rw [hc, ← Nat.mul_assoc, Nat.mul_comm c 2]
   have hm2 : (2 * c + 1) * bs.toNat = r.1 + bs.toNat := by rw [Nat.succ_mul, hm1]
   have s1 : SortK key (seg r.1 (r.1 + bs.toNat) r.2) := by
    rw [seg_of_drop hd (Nat.le_refl _), ← hm1]
    exact h5 (2 * c)
   have s2 : SortK key (seg (r.1 + bs.toNat) n.toNat r.2) := by
    have : seg (r.1 + bs.toNat) n.toNat r.2 = seg (r.1 + bs.toNat) (r.1 + bs.toNat + bs.toNat) r.2 := by
     unfold seg
     rw [List.take_of_length_le (by omega), List.take_of_length_le (by omega)]
    rw [this, seg_of_drop hd (by omega), ← hm2]
    exact h5 (2 * c + 1)
   refine ⟨⟨by omega, by omega, by omega, by omega, by omega, by simp only [big]; omega, h3.sub fun x hx => q5.mem.1 hx, key, h4.sub fun x hx => q5.mem.1 hx, ?_, ?_⟩, ?_⟩
   ·rw [show ((r.1 : Int) + bs).toNat = r.1 + bs.toNat by omega]
    exact s1
   ·rw [show ((r.1 : Int) + bs).toNat = r.1 + bs.toNat by omega]
    exact s2
   ·rw [hpas] at hfin
    exact hfin
  ·have hj' : ¬ (r.1 : Int) + bs < n := of_decide_eq_false hj
   rw [if_neg (by omega)] at hpas
   rw [hpas] at hfin
   exact hfin
 ·have hge : ¬ bs < n := of_decide_eq_false hi
  have : passes (ltOf g) n.toNat n.toNat bs.toNat l = l := by
   rw [passes_enough _ 0 _ _ (by omega) (by omega) (by omega)]
   rfl
  rw [this] at hq
  exact hq
theorem loopAll : Does Try.prog (.loop (loopF Try.f125 1)) pt_all.M pt_all FAll := by
 refine Does.loop (n := 63) (id := 2) sem_all (inv := fun x => InvAll x.1.1 x.1.2.2.1 x.1.2.1 x.2.1) (μ := fun x => (x.1.1 - x.1.2.2.1).toNat) ?_ (fun x Q h => h.1)
 rintro ⟨⟨n, g, bs, _⟩, ⟨l, _⟩⟩ hinv Q hq
 exact lawAll n bs g l hinv Q hq.2
noncomputable def ΛStab : Nat -> St -> Option Tr
 | 0 => pt_blk.han CI3.Γ pt_blk.M FBlk
 | _ => pt_all.han CI3.Γ pt_all.M FAll
noncomputable def mStab : Mt := ⟨3, i64, [.d i64, cmpT], [], fun l x => (sortB (ltOf x.2.1) l, ()), fun l x => [x.1 = l.length, (l.length : Int) <= 4611686018427387903, OrdOf x.2.1 l]⟩
noncomputable def fr_stab (l : List Int) (x : denP [.d i64, cmpT]) : Fr (List Int × denL []) :=
 let n := x.1; let g := x.2.1
 let r := blkI n 0 (g.1, g.2) l
 Fr.need (InvBlk n 20 0 20 (g.1, g.2) l)
 (Fr.need ((0 : Int) <= r.1)
  (Fr.need ((r.1 : Int) <= n)
   (Fr.need (n <= (r.2.length : Int))
    (Fr.need ((r.2.length : Int) <= 4611686018427387903)
     (Fr.need (OrdOf (g.1, g.2) r.2)
      (Fr.need (InvAll n 20 (g.1, g.2) (mInsert.f r.2 ((r.1 : Int), n, (g.1, g.2), ())).1)
       (Fr.val (passes (ltOf (g.1, g.2)) n.toNat n.toNat (20 : Int).toNat (mInsert.f r.2 ((r.1 : Int), n, (g.1, g.2), ())).1, ()))))))))
theorem stab_ok : SoundMt Try.prog 125 mStab :=
 convMt (mt_sound CI3_ok (Λ := ΛStab) (fn := Try.f125) (fr := fr_stab) (e := 3) (T := i64) (ps := [.d i64, cmpT]) (rs := []) (0, (fun _ => (0, ()), fun _ => True), ()) (by kernel_rfl) rfl rfl
  (fun c E hc => lam2f hc (by kernel_rfl) (b0 := loopF Try.f125 0) (b1 := loopF Try.f125 1) (by kernel_rfl) (by kernel_rfl) (Does.han CI3_ok rfl loopBlk) (Does.han CI3_ok rfl loopAll)) (fun l x => by kernel_rfl)) _ _ fun w F l xs vs _ _ _ hok => by
  obtain ⟨n, g, rfl⟩ : ∃ (n : Int) (g : cmpT.den), xs = (n, g, ()) := ⟨xs.1, xs.2.1, rfl⟩
  have hok' : (n : Int) = (List.length (α := Int) l : Int) /\ (List.length (α := Int) l : Int) <= 4611686018427387903 /\ OrdOf g l := hok
  obtain ⟨h1, h2, h3, key, h4⟩ := hok'
  subst h1
  have hr := blkW_spec (key := key) (lt := ltOf g) (w := 20) (n := List.length (α := Int) l) (by omega) (List.length (α := Int) l + 1) 0 l (by omega) (by omega) rfl ⟨0, by simp⟩ h4 (fun k hk => by omega)
  have hS := stableB_eq h4
  unfold stableB at hS
  have hb : blkI (List.length (α := Int) l : Int) 0 g l = blkW (ltOf g) 20 (List.length (α := Int) l) (List.length (α := Int) l + 1) 0 l := rfl
  dsimp only [fr_stab, Fr.ok, Fr.get, Ty.den, PT.den, mInsert, mStab]
  have e : (g.1, g.2) = g := rfl
  simp only [e, hb]
  simp only at hS
  generalize blkW (ltOf g) 20 (List.length (α := Int) l) (List.length (α := Int) l + 1) 0 l = r at hr hS ⊢
  obtain ⟨p1, p2, p3⟩ := hr.last h4
  have q2 := hr.le
  have q4 := hr.len
  have hm : ∀ x ∈ r.2, x ∈ l := fun x hx => hr.same.mem.1 hx
  have hm2 : ∀ x ∈ partB (ltOf g) r.1 (List.length (α := Int) l) r.2, x ∈ l := fun x hx => p2.mem.1 hx
  refine ⟨⟨⟨rfl, h2, rfl, by omega, by omega, rfl, h3, key, h4⟩, by omega, by omega, by omega, by omega, ⟨h3.sub hm, key, h4.sub hm⟩, ⟨congrArg (fun n : Nat => (n : Int)) p3.symm, h2, by omega, h3.sub hm2, key, h4.sub hm2, p1⟩, trivial⟩, ?_⟩
  show (passes (ltOf g) (List.length (α := Int) l) (List.length (α := Int) l) 20 (partB (ltOf g) r.1 (List.length (α := Int) l) r.2), ()) = (sortB (ltOf g) l, ())
  rw [hS]
noncomputable def CI4 : Cx := cxK [] [] (mtK (cx [] []).Γ 125 mStab)
theorem CI4_ok : CxOK Try.prog CI4 := cxK_ok mixed trivial trivial (mtK_ok CI0_ok.ct stab_ok)
noncomputable def mSort : Mt := ⟨3, i64, [cmpT], [], fun l x => (sortB (ltOf x.1) l, ()), fun l x => [(l.length : Int) <= 4611686018427387903, OrdOf x.1 l]⟩
noncomputable def fr_sort (l : List Int) (x : denP [cmpT]) : Fr (List Int × denL []) :=
 Fr.need ((l.length : Int) = l.length) (Fr.need ((l.length : Int) <= 4611686018427387903) (Fr.need (OrdOf (x.1.1, x.1.2) l) (Fr.val ((mStab.f l ((l.length : Int), (x.1.1, x.1.2), ())).1, ()))))
theorem sort_ok : SoundMt Try.prog 110 mSort :=
 convMt (mt_sound CI4_ok (Λ := lam0) (fn := Try.f110) (fr := fr_sort) (e := 3) (T := i64) (ps := [cmpT]) (rs := []) ((fun _ => (0, ()), fun _ => True), ()) (by kernel_rfl) rfl rfl
  (fun c E _ => lam0_ok c 0) (fun l x => by kernel_rfl)) _ _ fun w F l xs vs _ _ _ hok => by
  obtain ⟨g, rfl⟩ : ∃ g : cmpT.den, xs = (g, ()) := ⟨xs.1, rfl⟩
  exact ⟨⟨rfl, hok.1, hok.2, trivial⟩, rfl⟩
def dayOf (h : histT.den) (i : Int) : Int := (h.2.2.2.1.getD i.toNat changeT.dflt).2.1
abbrev chL (h : histT.den) : List changeT.den := h.2.2.2.1
noncomputable def CO1 : Cx := cx [(112, cCmp)] []
theorem CO1_ok : CxOK Try.prog CO1 := cx_ok mixed ⟨cmp_ok, trivial⟩ trivial
def fr_ord1 (x : denP [.d i64, .d i64, .ptr histT]) : Fr (denL [i64]) :=
 Fr.need (0 <= x.1 /\ x.1 < ((chL x.2.2.1).length : Int)) (Fr.need (0 <= x.2.1 /\ x.2.1 < ((chL x.2.2.1).length : Int)) (Fr.val ((cCmp.f (dayOf x.2.2.1 x.1, dayOf x.2.2.1 x.2.1, ())).1, ())))
def cOrd1 : Ct := ⟨[.d i64, .d i64, .ptr histT], [i64], fun x => (cmpZ (dayOf x.2.2.1 x.1) (dayOf x.2.2.1 x.2.1), ()), fun x => [0 <= x.1 /\ x.1 < ((chL x.2.2.1).length : Int), 0 <= x.2.1 /\ x.2.1 < ((chL x.2.2.1).length : Int)]⟩
theorem ord1_ok : SoundCt Try.prog 111 cOrd1 :=
 conv (fn_sound CO1_ok (Λ := lam0) (fn := Try.f111) (fr := fr_ord1) (dfP [.d i64, .d i64, .ptr histT]) (by kernel_rfl) (fun c E _ => lam0_ok c 0) (fun x => by kernel_rfl)) _ _ fun _ _ x _ _ hok =>
  ⟨⟨hok.1, hok.2, trivial⟩, rfl⟩
def rangeI (n : Nat) : List Int := (List.range n).map fun i : Nat => (i : Int)
theorem rangeI_succ (n : Nat) : rangeI (n + 1) = rangeI n ++ [(n : Int)] := by simp [rangeI, List.range_succ]
theorem rangeI_length (n : Nat) : (rangeI n).length = n := by simp [rangeI]
theorem rangeI_mem {n : Nat} {x : Int} (h : x ∈ rangeI n) : 0 <= x /\ x < n := by
 simp only [rangeI, List.mem_map, List.mem_range] at h
 obtain ⟨i, hi, rfl⟩ := h
 omega
noncomputable def CO2 : Cx := cxK [(111, cOrd1)] [] (mtK (cx [(111, cOrd1)] []).Γ 110 mSort)
theorem CO2_ct : CxOK Try.prog (cx [(111, cOrd1)] []) := cx_ok mixed ⟨ord1_ok, trivial⟩ trivial
theorem CO2_ok : CxOK Try.prog CO2 := cxK_ok mixed ⟨ord1_ok, trivial⟩ trivial (mtK_ok CO2_ct.ct sort_ok)
abbrev pt_ord : Pt := ⟨20, 0, ⟨[(7, .d i64), (8, .d i64)], [.x 1 35 histT, .r 1 1 0, .o 3 3 i64]⟩, ⟨[], [.x 1 35 histT, .r 1 1 0, .o 3 3 i64]⟩, ⟨[], []⟩⟩
set_option maxRecDepth 100000 in
def fr_ordL (x : pt_ord.M.X) : Fr pt_ord.Out :=
 let n := x.1.1; let k := x.1.2.1; let h := x.2.1; let l := x.2.2.1
 Fr.br (decide (k < n))
  (Fr.need (l.length + [k].length <= maxLen /\ (l.length + [k].length) * Try.prog.types[3].bytes <= 140737488355328) (Fr.val (Rd.next ((n, IntKind.i64.wrap (k + 1), ()), (h, l ++ [k], ())))))
  (Fr.val (Rd.out ((), (h, l, ()))))
theorem sem_ord : Does Try.prog (loopF Try.f72 0) pt_ord.M pt_ord fr_ordL :=
 Does.of_run CO2_ok (bs := 0) (Λ := lam0) rfl rfl rfl (fun E => lam0_ok _ 0) (fun x => by kernel_rfl)
set_option maxRecDepth 100000 in
theorem intBytes : Try.prog.types[3].bytes = 8 := by kernel_rfl
structure InvOrd (n k : Int) (l : List Int) : Prop where
 k0 : 0 <= k
 kn : k <= n
 big : n <= 1000000
 ll : l = rangeI k.toNat
def FOrd (x : pt_ord.M.X) : Fr pt_ord.Out :=
 Fr.need (InvOrd x.1.1 x.1.2.1 x.2.2.1) (Fr.val (Rd.out ((), (x.2.1, rangeI x.1.1.toNat, ()))))
theorem lawOrd (n k : Int) (h : histT.den) (l : List Int) (hinv : InvOrd n k l) (Q : pt_ord.Out -> Prop) (hq : Q (Rd.out ((), (h, rangeI n.toNat, ())))) : (fr_ordL ((n, k, ()), (h, l, ()))).satP fun
   | .next x' => InvOrd x'.1.1 x'.1.2.1 x'.2.2.1 /\ (x'.1.1 - x'.1.2.1).toNat < (n - k).toNat /\ (FOrd x').satP Q
   | .out y => Q (.out y)
   | .back z => Q (.back z)
   | .pan p => Q (.pan p) := by
 obtain ⟨h0, h1, h2, h3⟩ := hinv
 subst h3
 dsimp only [fr_ordL, Fr.satP, Ty.den, PT.den]
 rw [intBytes]
 refine ⟨fun hi => ?_, fun hi => ?_⟩
 ·have hlt : k < n := of_decide_eq_true hi
  have w : IntKind.i64.wrap (k + 1) = k + 1 := IntWalk.i64_in _ (by omega)
  rw [w]
  have hI : InvOrd n (k + 1) (rangeI k.toNat ++ [k]) := ⟨by omega, by omega, h2, by rw [show (k + 1).toNat = k.toNat + 1 by omega, rangeI_succ, show ((k.toNat : Nat) : Int) = k by omega]⟩
  refine ⟨?_, hI, by omega, hI, hq⟩
  simp only [rangeI_length, List.length_cons, List.length_nil, maxLen]
  omega
 ·have hge : ¬ k < n := of_decide_eq_false hi
  rw [show n = k by omega] at hq
  exact hq
theorem loopOrd : Does Try.prog (.loop (loopF Try.f72 0)) pt_ord.M pt_ord FOrd := by
 refine Does.loop (n := 20) (id := 0) sem_ord (inv := fun x => InvOrd x.1.1 x.1.2.1 x.2.2.1) (μ := fun x => (x.1.1 - x.1.2.1).toNat) ?_ (fun x Q h => h.1)
 rintro ⟨⟨n, k, _⟩, ⟨h, l, _⟩⟩ hinv Q hq
 exact lawOrd n k h l hinv Q hq.2
noncomputable def ΛOrd : Nat -> St -> Option Tr := fun _ => pt_ord.han CO2.Γ pt_ord.M FOrd
def ordG (h : histT.den) : cmpT.den := (fun x => cOrd1.f (x.1, x.2.1, h, ()), fun x => conj (cOrd1.ok (x.1, x.2.1, h, ())))
noncomputable def fr_order (x : denP [.d histT]) : Fr (denL [.sl i64]) :=
 let n : Int := ((chL x.1).length : Int)
 Fr.need (InvOrd n 0 [])
 (Fr.need (((rangeI n.toNat).length : Int) <= 4611686018427387903)
  (Fr.need (OrdOf (ordG x.1) (rangeI n.toNat)) (Fr.val ((mSort.f (rangeI n.toNat) (ordG x.1, ())).1, ()))))
def ltDay (h : histT.den) (x y : Int) : Bool := decide (dayOf h x < dayOf h y)
def orderL (h : histT.den) : List Int := sortB (ltDay h) (rangeI (chL h).length)
theorem ltOf_ord (h : histT.den) : ltOf (ordG h) = ltDay h := by
 funext x y
 show decide (cmpZ (dayOf h x) (dayOf h y) < 0) = decide (dayOf h x < dayOf h y)
 rw [decide_eq_decide]
 unfold cmpZ
 split
 ·simp [*]
 ·split <;> simp <;> omega
def cOrder : Ct := ⟨[.d histT], [.sl i64], fun x => (orderL x.1, ()), fun x => [((chL x.1).length : Int) <= 1000000]⟩
theorem order_ok : SoundCt Try.prog 72 cOrder :=
 conv (fn_sound CO2_ok (Λ := ΛOrd) (fn := Try.f72) (fr := fr_order) (ps := [.d histT]) (rs := [.sl i64]) (dfP [.d histT]) (by kernel_rfl)
  (fun c E hc => lam1f hc (by kernel_rfl) (b := loopF Try.f72 0) (by kernel_rfl) (Does.han CO2_ok rfl loopOrd)) (fun x => by kernel_rfl)) _ _ fun _ _ x _ _ hok => by
  obtain ⟨h, rfl⟩ : ∃ h : histT.den, x = (h, ()) := ⟨x.1, rfl⟩
  have hok' : ((chL h).length : Int) <= 1000000 := hok
  have e : ((chL h).length : Int).toNat = (chL h).length := rfl
  dsimp only [fr_order, Fr.ok, Fr.get, mSort]
  rw [e, ltOf_ord, rangeI_length]
  refine ⟨⟨⟨Int.le_refl _, by omega, hok', rfl⟩, by omega, ⟨fun x hx y hy => ⟨rangeI_mem hx, rangeI_mem hy⟩, dayOf h, fun x _ y _ => by rw [ltOf_ord]; rfl⟩, trivial⟩, rfl⟩
section
variable {key : Int -> Int} {lt : Int -> Int -> Bool}
end
theorem drop_at {l : List Int} {i : Nat} (h : i < l.length) : l.drop i = l.getD i 0 :: l.drop (i + 1) := by
 rw [List.drop_eq_getElem_cons h]
 simp [List.getD_eq_getElem?_getD, List.getElem?_eq_getElem h]
end Go.Proofs.Ytplkgghjldndkaa
namespace Go.Proofs.Ytplkgghjldndkaa
open Go Go.Ab Go.RowKit Go.Proofs
def doesC (s : sliceT.den) (c : changeT.den) : sliceT.den :=
 if c.2.2.1 = 1 then (s.1, s.2.1, c.2.2.2.1, s.2.2.2.1, s.2.2.2.2.1, ())
 else if c.2.2.1 = 2 then (s.1, s.2.1, s.2.2.1, c.2.2.2.2.1, s.2.2.2.2.1, ())
 else if c.2.2.1 = 3 then (s.1, false, s.2.2.1, s.2.2.2.1, s.2.2.2.2.1, ())
 else if c.2.2.1 = 4 then (s.1, true, s.2.2.1, s.2.2.2.1, s.2.2.2.2.1, ())
 else s
def chAt (h : histT.den) (i : Int) : changeT.den := (chL h).getD i.toNat changeT.dflt
abbrev Core : Type := Bool × riskT.den × List coverT.den
def coreS (s : sliceT.den) : Core := (s.2.1, s.2.2.1, s.2.2.2.1)
theorem riskEq_iff {a b : riskT.den} : riskEq a b = true ↔ a = b := by
 obtain ⟨a1, a2, a3, a4, _⟩ := a
 obtain ⟨b1, b2, b3, b4, _⟩ := b
 constructor
 ·intro h
  simp only [riskEq, Bool.and_eq_true, beq_iff_eq] at h
  obtain ⟨h1, h2, h3, h4, _⟩ := h
  rw [h1, h2, h3, h4]
 ·intro h
  cases h
  simp [riskEq]
theorem holdsB_iff {a b : sliceT.den} : holdsB a b = true ↔ coreS a = coreS b := by
 unfold holdsB coreS
 simp only [Bool.and_eq_true, beq_iff_eq, riskEq_iff, sameC_iff, Prod.mk.injEq]
def Runs (st : Int -> Core) (b : Int) : Int -> List sliceT.den -> Prop
 | a, [] => a = b
 | a, s :: l => s.1.1 = a /\ a < s.1.2.1 /\ s.2.2.2.2.1 = (0 : Int) /\ (∀ d, a <= d -> d < s.1.2.1 -> coreS s = st d) /\ (∀ t ∈ l.head?, coreS s ≠ coreS t) /\ Runs st b s.1.2.1 l
theorem Runs.le {st : Int -> Core} {b : Int} : {a : Int} -> {l : List sliceT.den} -> Runs st b a l -> a <= b
 | a, [], h => Int.le_of_eq h
 | a, s :: l, h => Int.le_trans (Int.le_of_lt h.2.1) (Runs.le h.2.2.2.2.2)
theorem Runs.at_ {st : Int -> Core} {b : Int} {s : sliceT.den} {l : List sliceT.den} {a : Int} (h : Runs st b a (s :: l)) : coreS s = st a := h.2.2.2.1 a (Int.le_refl a) h.2.1
def pushR : List sliceT.den -> sliceT.den -> List sliceT.den
 | [], s => [s]
 | [x], s => if holdsB x s = true then [((x.1.1, s.1.2.1, ()), x.2)] else [x, s]
 | x :: y :: r, s => x :: pushR (y :: r) s
theorem pushR_head (s : sliceT.den) : (y : sliceT.den) -> (r : List sliceT.den) -> ∃ y' r', pushR (y :: r) s = y' :: r' /\ coreS y' = coreS y
 | y, [] => by
  unfold pushR
  split
  ·exact ⟨_, _, rfl, rfl⟩
  ·exact ⟨_, _, rfl, rfl⟩
 | y, z :: r => ⟨y, _, rfl, rfl⟩
theorem Runs.push {st : Int -> Core} {m n : Int} {s : sliceT.den} (hs : s.1.1 = m /\ s.1.2.1 = n /\ s.2.2.2.2.1 = (0 : Int)) (hmn : m < n) (hst : ∀ d, m <= d -> d < n -> coreS s = st d) : {a : Int} -> {l : List sliceT.den} -> Runs st m a l -> Runs st n a (pushR l s)
 | a, [], h => by
  have h0 : a = m := h
  subst h0
  refine ⟨hs.1, by rw [hs.2.1]; exact hmn, hs.2.2, fun d h1 h2 => hst d h1 (by rw [hs.2.1] at h2; exact h2), fun t ht => (by cases ht), hs.2.1⟩
 | a, [x], h => by
  have hx : x.1.2.1 = m := h.2.2.2.2.2
  unfold pushR
  by_cases hh : holdsB x s = true
  ·rw [if_pos hh]
   have hc := holdsB_iff.1 hh
   refine ⟨h.1, ?_, h.2.2.1, fun d h1 h2 => ?_, fun t ht => (by cases ht), ?_⟩
   ·show a < s.1.2.1
    rw [hs.2.1]
    have h1 : a < x.1.2.1 := h.2.1
    rw [hx] at h1
    exact Int.lt_trans h1 hmn
   ·have h2' : d < n := by
     have : d < s.1.2.1 := h2
     rw [hs.2.1] at this
     exact this
    show coreS x = st d
    by_cases hd : d < m
    ·exact h.2.2.2.1 d h1 (by rw [hx]; exact hd)
    ·exact hc.trans (hst d (Int.not_lt.1 hd) h2')
   ·exact hs.2.1
  ·rw [if_neg hh]
   have hc : coreS x ≠ coreS s := fun e => hh (holdsB_iff.2 e)
   refine ⟨h.1, h.2.1, h.2.2.1, h.2.2.2.1, fun t ht => ?_, ?_⟩
   ·simp at ht
    subst ht
    exact hc
   ·rw [hx]
    exact ⟨hs.1, by rw [hs.2.1]; exact hmn, hs.2.2, fun d h1 h2 => hst d h1 (by rw [hs.2.1] at h2; exact h2), fun t ht => (by cases ht), hs.2.1⟩
 | a, x :: y :: r, h => by
  refine ⟨h.1, h.2.1, h.2.2.1, h.2.2.2.1, fun t ht => ?_, Runs.push hs hmn hst h.2.2.2.2.2⟩
  obtain ⟨y', r', e, hc⟩ := pushR_head s y r
  rw [e] at ht
  simp at ht
  subst ht
  rw [hc]
  exact h.2.2.2.2.1 y (by simp)
def chsO (h : histT.den) : List changeT.den := (orderL h).map (chAt h)
def endS (now : sliceT.den) (out : List sliceT.den) (day : Int) : List sliceT.den :=
 if now.1.1 = day then out else pushR out ((now.1.1, day, ()), now.2)
def goCut : List changeT.den -> sliceT.den -> List sliceT.den -> sliceT.den × List sliceT.den
 | [], now, out => (now, out)
 | c :: l, now, out => goCut l (doesC ((c.2.1, now.1.2.1, ()), now.2) c) (endS now out c.2.1)
def nowS (h : histT.den) : sliceT.den := ((h.2.2.1.1.1, 0, ()), true, h.2.2.1.2.1, h.2.2.1.2.2.1, 0, ())
def cutL (h : histT.den) : List sliceT.den := endS (goCut (chsO h) (nowS h) []).1 (goCut (chsO h) (nowS h) []).2 h.2.2.1.1.2.1
def Fr.way {α : Type} : Fr α -> Fr α
 | .br true x _ => Fr.way x
 | .br false _ y => Fr.way y
 | .need p x => .need p (Fr.way x)
 | .val v => .val v
theorem Fr.way_ok {α : Type} : {f : Fr α} -> (Fr.way f).ok -> f.ok /\ f.get = (Fr.way f).get
 | .br true x _, h => by
  have := Fr.way_ok (f := x) h
  exact ⟨⟨fun _ => this.1, fun hb => (by cases hb)⟩, this.2⟩
 | .br false _ y, h => by
  have := Fr.way_ok (f := y) h
  exact ⟨⟨fun hb => (by cases hb), fun _ => this.1⟩, this.2⟩
 | .need _ x, h => by
  have := Fr.way_ok (f := x) h.2
  exact ⟨⟨h.1, this.1⟩, this.2⟩
 | .val _, _ => ⟨trivial, rfl⟩
theorem Fr.way_eq {α : Type} {f g : Fr α} (h : Fr.way f = g) (hg : g.ok) : f.ok /\ f.get = g.get := by
 subst h
 exact Fr.way_ok hg
theorem convF {P : Program} {f : FuncId} {ps : List PT} {rs : List Ty} {fr : denP ps -> Fr (denL rs)} (h : SoundCt P f ⟨ps, rs, fun xs => (fr xs).get, fun xs => [(fr xs).ok]⟩) (g : denP ps -> denL rs) (ok : denP ps -> List Prop)
  (hg : ∀ w F xs vs, RepPs P w F ps xs vs -> conj (ok xs) -> (fr xs).ok /\ (fr xs).get = g xs) : SoundCt P f ⟨ps, rs, g, ok⟩ :=
 conv h g ok hg
noncomputable def frLen (x : denP [.d u64]) : Fr (denL [i64]) := (runFn Try.prog (cx [] []) lam0 Try.f144 [.d u64] [i64] x).getD (Fr.need False (Fr.val (0, ())))
theorem frLen_way : Fr.way (frLen (10000, ())) = Fr.need (¬ (8 : Int) < 0) (Fr.need (0 <= (39 : Int) /\ (39 : Int) < ((256 : Nat) : Int)) (Fr.val (14, ()))) := by kernel_rfl
def cLen : Ct := ⟨[.d u64], [i64], fun _ => (14, ()), fun x => [x.1 = 10000]⟩
theorem len_ok : SoundCt Try.prog 144 cLen :=
 convF (fn_sound (cx_ok (cs := []) (ps := []) mixed trivial trivial) (Λ := lam0) (fn := Try.f144) (fr := frLen) (ps := [.d u64]) (rs := [i64]) (0, ()) (by kernel_rfl) (fun c E _ => lam0_ok c 0) (fun x => by kernel_rfl)) _ _
  (fun w F x vs _ hok => by
   obtain ⟨n, _⟩ := x
   have hn : n = 10000 := hok
   subst hn
   exact Fr.way_eq frLen_way ⟨by decide, ⟨by decide, by decide⟩, trivial⟩)
def cLz : Ct := ⟨[.d u64], [i64], fun _ => (50, ()), fun x => [x.1 = 10000]⟩
theorem lz_ok : SoundCt Try.prog 141 cLz :=
 conv (fn_sound (cx_ok (cs := [(144, cLen)]) (ps := []) mixed ⟨len_ok, trivial⟩ trivial) (Λ := lam0) (fn := Try.f141) (fr := fun x => Fr.need (x.1 = 10000) (Fr.val (IntKind.i64.wrap (64 - (cLen.f (x.1, ())).1), ()))) (ps := [.d u64]) (rs := [i64]) (0, ()) (by kernel_rfl) (fun c E _ => lam0_ok c 0) (fun x => by kernel_rfl)) _ _
  (fun w F x vs _ hok => ⟨⟨hok, trivial⟩, rfl⟩)
abbrev dU : PT := .d u64
def MD0 : LS := ⟨[(2, dU), (8, dU), (9, dU), (10, dU), (11, dU), (13, dU), (14, dU), (15, dU), (16, dU)], []⟩
def MD2 : LS := ⟨[(2, dU), (8, dU), (9, dU), (10, dU), (13, dU), (14, dU), (15, dU), (16, dU), (17, dU), (18, dU)], []⟩
def ptD0 : Pt := ⟨135, 0, MD0, MD0, ⟨[], []⟩⟩
def ptD2 : Pt := ⟨135, 2, MD2, MD2, ⟨[], []⟩⟩
def more (q yn r u : Int) : Bool := bif decide (q ≥ 4294967296) then true else decide (IntKind.u64.wrap (q * yn) > IntKind.u64.wrap (IntKind.u64.wrap (4294967296 * r) + u))
def fD0 (x : MD0.X) : Fr ptD0.Out :=
 match x with
 | ((y, s, a, b, c, d, e, q, r, _), _) => Fr.br (more q b r d)
  (Fr.br (decide (IntKind.u64.wrap (r + a) ≥ 4294967296))
   (Fr.val (Rd.out ((y, s, a, b, c, d, e, IntKind.u64.wrap (q - 1), IntKind.u64.wrap (r + a), ()), ())))
   (Fr.val (Rd.next ((y, s, a, b, c, d, e, IntKind.u64.wrap (q - 1), IntKind.u64.wrap (r + a), ()), ()))))
  (Fr.val (Rd.out ((y, s, a, b, c, d, e, q, r, ()), ())))
def fD2 (x : MD2.X) : Fr ptD2.Out :=
 match x with
 | ((y, s, a, b, d, e, q, r, u, v, _), _) => Fr.br (more v b r e)
  (Fr.br (decide (IntKind.u64.wrap (r + a) ≥ 4294967296))
   (Fr.val (Rd.out ((y, s, a, b, d, e, q, IntKind.u64.wrap (r + a), u, IntKind.u64.wrap (v - 1), ()), ())))
   (Fr.val (Rd.next ((y, s, a, b, d, e, q, IntKind.u64.wrap (r + a), u, IntKind.u64.wrap (v - 1), ()), ()))))
  (Fr.val (Rd.out ((y, s, a, b, d, e, q, r, u, v, ()), ())))
def FD0 (x : MD0.X) : Fr ptD0.Out := Fr.need (more x.1.2.2.2.2.2.2.2.1 x.1.2.2.2.1 x.1.2.2.2.2.2.2.2.2.1 x.1.2.2.2.2.2.1 = false) (Fr.val (.out x))
def FD2 (x : MD2.X) : Fr ptD2.Out := Fr.need (more x.1.2.2.2.2.2.2.2.2.2.1 x.1.2.2.2.1 x.1.2.2.2.2.2.2.2.1 x.1.2.2.2.2.2.1 = false) (Fr.val (.out x))
noncomputable def CD : Cx := cx [(141, cLz)] []
theorem CD_ok : CxOK Try.prog CD := cx_ok mixed ⟨lz_ok, trivial⟩ trivial
theorem semD0 : Does Try.prog (loopF Try.f135 0) MD0 ptD0 fD0 := Does.of_run CD_ok (bs := 0) rfl rfl rfl (fun _ => lam0_ok _ 0) (fun x => by kernel_rfl)
theorem semD2 : Does Try.prog (loopF Try.f135 1) MD2 ptD2 fD2 := Does.of_run CD_ok (bs := 0) rfl rfl rfl (fun _ => lam0_ok _ 0) (fun x => by kernel_rfl)
theorem doesD0 : Does Try.prog (.loop (loopF Try.f135 0)) MD0 ptD0 FD0 :=
 Does.loop (n := 135) (id := 0) semD0 (inv := fun x => more x.1.2.2.2.2.2.2.2.1 x.1.2.2.2.1 x.1.2.2.2.2.2.2.2.2.1 x.1.2.2.2.2.2.1 = false) (μ := fun _ => 0)
  (by
   rintro ⟨⟨y, s, a, b, c, d, e, q, r, _⟩, _⟩ hinv Q hq
   exact ⟨fun h => (by rw [show more q b r d = false from hinv] at h; cases h), fun _ => hq.2⟩)
  (fun x Q h => h.1)
theorem doesD2 : Does Try.prog (.loop (loopF Try.f135 1)) MD2 ptD2 FD2 :=
 Does.loop (n := 135) (id := 2) semD2 (inv := fun x => more x.1.2.2.2.2.2.2.2.2.2.1 x.1.2.2.2.1 x.1.2.2.2.2.2.2.2.1 x.1.2.2.2.2.2.1 = false) (μ := fun _ => 0)
  (by
   rintro ⟨⟨y, s, a, b, d, e, q, r, u, v, _⟩, _⟩ hinv Q hq
   exact ⟨fun h => (by rw [show more v b r e = false from hinv] at h; cases h), fun _ => hq.2⟩)
  (fun x Q h => h.1)
noncomputable def lamD : Nat -> St -> Option Tr := fun k => if k = 0 then ptD0.han CD.Γ MD0 FD0 else ptD2.han CD.Γ MD2 FD2
abbrev wU (n : Int) : Int := IntKind.u64.wrap n
def shl50 (a : Int) : Int := wU (a * 2 ^ min (wU 50).toNat IntKind.u64.bits)
def dU32 (hi lo : Int) : Int := wU ((BitVec.ofInt IntKind.u64.bits (shl50 hi) ||| BitVec.ofInt IntKind.u64.bits (lo.fdiv (2 ^ min (wU (64 - wU 50)).toNat IntKind.u64.bits))).toNat : Int)
def dQ (u y : Int) : Int := wU (u.tdiv (h32 (shl50 y)))
def dR (u y : Int) : Int := wU (u - wU (dQ u y * h32 (shl50 y)))
def dU21 (hi lo y : Int) : Int := wU (wU (wU (dU32 hi lo * 4294967296) + h32 (shl50 lo)) - wU (dQ (dU32 hi lo) y * shl50 y))
def frDivI (hi lo y : Int) : Fr (denL [u64, u64]) :=
 Fr.need (y = 10000) (Fr.need (¬ wU 50 < 0) (Fr.need (¬ (32 : Int) < 0) (Fr.need (¬ wU 50 < 0) (Fr.need (¬ wU (64 - wU 50) < 0) (Fr.need (¬ wU 50 < 0) (Fr.need (¬ (32 : Int) < 0)
  (Fr.need (h32 (shl50 y) ≠ 0)
   (Fr.need (more (dQ (dU32 hi lo) y) (m32 (shl50 y)) (dR (dU32 hi lo) y) (h32 (shl50 lo)) = false)
    (Fr.need (h32 (shl50 y) ≠ 0)
     (Fr.need (more (dQ (dU21 hi lo y) y) (m32 (shl50 y)) (dR (dU21 hi lo y) y) (m32 (shl50 lo)) = false)
      (Fr.need (¬ wU 50 < 0)
       (Fr.val (wU (wU (dQ (dU32 hi lo) y * 4294967296) + dQ (dU21 hi lo y) y),
        (wU (wU (wU (dU21 hi lo y * 4294967296) + m32 (shl50 lo)) - wU (dQ (dU21 hi lo y) y * shl50 y))).fdiv (2 ^ min (wU 50).toNat IntKind.u64.bits), ())))))))))))))
def frDivW (x : denP [dU, dU, dU]) : Fr (denL [u64, u64]) :=
 Fr.br (x.2.2.1 == 0) (Fr.need False (Fr.val (0, 0, ())))
  (Fr.br (decide (x.2.2.1 <= x.1)) (Fr.need False (Fr.val (0, 0, ())))
   (Fr.br (x.1 == 0) (Fr.need (x.2.2.1 ≠ 0) (Fr.need (x.2.2.1 ≠ 0) (Fr.val (IntKind.u64.wrap (x.2.1.tdiv x.2.2.1), x.2.1.tmod x.2.2.1, ()))))
    (frDivI x.1 x.2.1 x.2.2.1)))
theorem Fr.br_f {α : Type} {b : Bool} {x y : Fr α} {v : α} (hb : b = false) (h : y.ok /\ y.get = v) : (Fr.br b x y).ok /\ (Fr.br b x y).get = v := by
 subst hb
 exact ⟨⟨fun h => (by cases h), fun _ => h.1⟩, h.2⟩
theorem Fr.br_t {α : Type} {b : Bool} {x y : Fr α} {v : α} (hb : b = true) (h : x.ok /\ x.get = v) : (Fr.br b x y).ok /\ (Fr.br b x y).get = v := by
 subst hb
 exact ⟨⟨fun _ => h.1, fun h => (by cases h)⟩, h.2⟩
theorem Fr.need_ {α : Type} {p : Prop} {x : Fr α} {v : α} (hp : p) (h : x.ok /\ x.get = v) : (Fr.need p x).ok /\ (Fr.need p x).get = v := ⟨⟨hp, h.1⟩, h.2⟩
theorem div_run : SoundCt Try.prog 135 ⟨[dU, dU, dU], [u64, u64], fun xs => (frDivW xs).get, fun xs => [(frDivW xs).ok]⟩ :=
 fn_sound CD_ok (Λ := lamD) (fn := Try.f135) (fr := frDivW) (ps := [dU, dU, dU]) (rs := [u64, u64]) (0, 0, 0, ()) (by kernel_rfl)
  (fun c E hc => lam2f hc (by kernel_rfl) (b0 := loopF Try.f135 0) (b1 := loopF Try.f135 1) (by kernel_rfl) (by kernel_rfl) (Does.han CD_ok rfl doesD0) (Does.han CD_ok rfl doesD2)) (fun x => by kernel_rfl)
theorem shl50_eq {a : Int} : shl50 a = wU (a * 1125899906842624) := by
 have e1 : wU 50 = 50 := by decide
 have e2 : min (50 : Int).toNat IntKind.u64.bits = 50 := by decide
 unfold shl50
 rw [e1, e2]
 rfl
theorem or_add {a b : Int} (h1 : 0 <= a) (h2 : 0 <= b) (h3 : b < 1125899906842624) (h4 : a * 1125899906842624 < 18446744073709551616) :
  wU ((BitVec.ofInt IntKind.u64.bits (a * 1125899906842624) ||| BitVec.ofInt IntKind.u64.bits b).toNat : Int) = a * 1125899906842624 + b := by
 obtain ⟨m, rfl⟩ : ∃ m : Nat, a = m := ⟨a.toNat, by omega⟩
 obtain ⟨n, rfl⟩ : ∃ n : Nat, b = n := ⟨b.toNat, by omega⟩
 have e1 : (BitVec.ofInt IntKind.u64.bits ((m : Int) * 1125899906842624)).toNat = m * 1125899906842624 := by
  rw [BitVec.toNat_ofInt]
  show (((m : Int) * 1125899906842624) % ((2 ^ 64 : Nat) : Int)).toNat = m * 1125899906842624
  omega
 have e2 : (BitVec.ofInt IntKind.u64.bits (n : Int)).toNat = n := by
  rw [BitVec.toNat_ofInt]
  show ((n : Int) % ((2 ^ 64 : Nat) : Int)).toNat = n
  omega
 have e3 : (m * 1125899906842624 ||| n) = m * 1125899906842624 + n := by
  have := Nat.shiftLeft_add_eq_or_of_lt (i := 50) (b := n) (by omega) m
  rw [Nat.shiftLeft_eq] at this
  have e : (2 : Nat) ^ 50 = 1125899906842624 := by decide
  rw [e] at this
  exact this.symm
 rw [BitVec.toNat_or, e1, e2, e3]
 show IntKind.u64.wrap _ = _
 rw [u64w (by omega)]
 omega
theorem div_a {hi lo q1 q0 un32 un10 un1 un0 r1 un21 : Int} (h1 : 0 <= hi /\ hi < 10000) (h2 : 0 <= lo /\ lo <= 18446744073709551615)
  (e32 : un32 = hi * 1125899906842624 + lo / 16384) (e10 : un10 = lo * 1125899906842624 % 18446744073709551616) (e1 : un1 = un10 / 4294967296) (e0 : un0 = un10 % 4294967296)
  (eq1 : q1 = un32 / 2621440000) (er : r1 = un32 - q1 * 2621440000) (e21 : un21 = r1 * 4294967296 + un1) (eq0 : q0 = un21 / 2621440000) :
  un0 = 0 /\ 0 <= un1 /\ un1 < 4294967296 /\ 0 <= q1 /\ q1 < 4294967296 /\ 0 <= r1 /\ r1 < 2621440000 /\ 0 <= q0 /\ q0 < 4294967296 /\ q1 * 4294967296 + q0 = (hi * 18446744073709551616 + lo) / 10000 /\ (un21 - q0 * 2621440000) * 4294967296 / 1125899906842624 = (hi * 18446744073709551616 + lo) % 10000 := by
 have a1 : un1 = (lo % 16384) * 262144 := by omega
 have a0 : un0 = 0 := by omega
 have a2 : 0 <= un1 /\ un1 < 4294967296 := by omega
 clear e1 e0 e10
 have b1 : 0 <= q1 /\ q1 < 4294967296 := by omega
 have b2 : 0 <= r1 /\ r1 < 2621440000 := by omega
 have b3 : 0 <= q0 /\ q0 < 4294967296 := by omega
 refine ⟨a0, a2.1, a2.2, b1.1, b1.2, b2.1, b2.2, b3.1, b3.2, ?_, ?_⟩
 ·omega
 ·omega
theorem more_no {q r u : Int} (h1 : 0 <= q /\ q < 4294967296) : more q 0 r u = false := by
 unfold more
 have e1 : decide (q ≥ 4294967296) = false := by simp; omega
 rw [e1, Int.mul_zero]
 have e2 : IntKind.u64.wrap 0 = 0 := by decide
 rw [e2]
 have : 0 <= IntKind.u64.wrap (IntKind.u64.wrap (4294967296 * r) + u) := by
  rw [IntKind.wrap_u64]
  omega
 simp
 omega
theorem dqL {u : Int} (h : 0 <= u /\ u < 18446744073709551616) : wU (u.tdiv 2621440000) = u / 2621440000 := by
 rw [Int.tdiv_eq_ediv_of_nonneg h.1]
 exact u64w (by omega)
theorem g1L {q1 q0 : Int} (h1 : 0 <= q1 /\ q1 < 4294967296) (h0 : 0 <= q0 /\ q0 < 4294967296) : wU (wU (q1 * 4294967296) + q0) = q1 * 4294967296 + q0 := by
 rw [show wU (q1 * 4294967296) = q1 * 4294967296 from u64w (by omega)]
 exact u64w (by omega)
theorem g2L {u q0 : Int} (hq : q0 = u / 2621440000) (hu : 0 <= u /\ u < 18446744073709551616) : wU (wU (wU (u * 4294967296) + 0) - wU (q0 * 11258999068426240000)) = (u - q0 * 2621440000) * 4294967296 := by
 unfold wU
 simp only [IntKind.wrap_u64]
 omega
theorem e21L {u q1 u1 : Int} (h : 0 <= u - q1 * 2621440000 /\ u - q1 * 2621440000 < 2621440000) (h1 : 0 <= u1 /\ u1 < 4294967296) : wU (wU (wU (u * 4294967296) + u1) - wU (q1 * 11258999068426240000)) = (u - q1 * 2621440000) * 4294967296 + u1 := by
 unfold wU
 simp only [IntKind.wrap_u64]
 omega
theorem u21L {r u1 : Int} (h : 0 <= r /\ r < 2621440000) (h1 : 0 <= u1 /\ u1 < 4294967296) : 0 <= r * 4294967296 + u1 /\ r * 4294967296 + u1 < 18446744073709551616 := by omega
theorem u32L {hi lo : Int} (h1 : 0 <= hi /\ hi < 10000) (h2 : 0 <= lo /\ lo <= 18446744073709551615) : 0 <= hi * 1125899906842624 + lo / 16384 /\ hi * 1125899906842624 + lo / 16384 < 18446744073709551616 := by omega
theorem divW_plain {hi lo : Int} (h0 : hi ≠ 0) (h1 : 0 <= hi /\ hi < 10000) (h2 : 0 <= lo /\ lo <= 18446744073709551615) :
  (frDivW (hi, lo, 10000, ())).ok /\ (frDivW (hi, lo, 10000, ())).get = ((hi * 18446744073709551616 + lo) / 10000, (hi * 18446744073709551616 + lo) % 10000, ()) := by
 have ey : shl50 10000 = 11258999068426240000 := by decide
 have ey1 : h32 (shl50 10000) = 2621440000 := by decide
 have ey0 : m32 (shl50 10000) = 0 := by decide
 have es : shl50 hi = hi * 1125899906842624 := by rw [shl50_eq]; exact u64w (by omega)
 have eu : dU32 hi lo = hi * 1125899906842624 + lo / 16384 := by
  unfold dU32
  have e1 : lo.fdiv (2 ^ min (wU (64 - wU 50)).toNat IntKind.u64.bits) = lo / 16384 := by
   have : (2 : Int) ^ min (wU (64 - wU 50)).toNat IntKind.u64.bits = 16384 := by decide
   rw [this, Int.fdiv_eq_ediv_of_nonneg _ (by decide)]
  rw [e1, es]
  exact or_add (by omega) (by omega) (by omega) (by omega)
 have el : shl50 lo = lo * 1125899906842624 % 18446744073709551616 := by rw [shl50_eq]; exact IntKind.wrap_u64 _
 have hs : 0 <= shl50 lo /\ shl50 lo <= 18446744073709551615 := by rw [el]; omega
 have eU1 : h32 (shl50 lo) = shl50 lo / 4294967296 := h32_eq
 have eU0 : m32 (shl50 lo) = shl50 lo % 4294967296 := m32_eq hs
 have eq1 : dQ (dU32 hi lo) 10000 = dU32 hi lo / 2621440000 := by
  unfold dQ
  rw [ey1, eu]
  exact dqL (u32L h1 h2)
 obtain ⟨k0, k1, k2, k3, k4, k5, k6, k7, k8, k9, k10⟩ := div_a (q1 := dQ (dU32 hi lo) 10000) (un32 := dU32 hi lo) (un10 := shl50 lo) (un1 := h32 (shl50 lo)) (un0 := m32 (shl50 lo)) (r1 := dU32 hi lo - dQ (dU32 hi lo) 10000 * 2621440000) h1 h2 eu el eU1 eU0 eq1 rfl rfl rfl
 have e21 : dU21 hi lo 10000 = (dU32 hi lo - dQ (dU32 hi lo) 10000 * 2621440000) * 4294967296 + h32 (shl50 lo) := by
  unfold dU21
  rw [ey]
  exact e21L ⟨k5, k6⟩ ⟨k1, k2⟩
 have b21 := u21L ⟨k5, k6⟩ ⟨k1, k2⟩
 rw [← e21] at k7 k8 k9 k10 b21
 have eq0 : dQ (dU21 hi lo 10000) 10000 = dU21 hi lo 10000 / 2621440000 := by
  unfold dQ
  rw [ey1]
  exact dqL b21
 rw [← eq0] at k7 k8 k9 k10
 have g1 : wU (wU (dQ (dU32 hi lo) 10000 * 4294967296) + dQ (dU21 hi lo 10000) 10000) = (hi * 18446744073709551616 + lo) / 10000 := by
  rw [← k9]
  exact g1L ⟨k3, k4⟩ ⟨k7, k8⟩
 have g2 : (wU (wU (wU (dU21 hi lo 10000 * 4294967296) + m32 (shl50 lo)) - wU (dQ (dU21 hi lo 10000) 10000 * shl50 10000))).fdiv (2 ^ min (wU 50).toNat IntKind.u64.bits) = (hi * 18446744073709551616 + lo) % 10000 := by
  have e50 : (2 : Int) ^ min (wU 50).toNat IntKind.u64.bits = 1125899906842624 := by decide
  rw [e50, ey, k0, Int.fdiv_eq_ediv_of_nonneg _ (by decide), ← k10, g2L eq0 b21]
 have hge : ¬ (10000 : Int) <= hi := by omega
 have h0' : (hi == 0) = false := by simpa using h0
 refine Fr.br_f rfl (Fr.br_f (decide_eq_false hge) (Fr.br_f h0' ?_))
 show (frDivI hi lo 10000).ok /\ (frDivI hi lo 10000).get = _
 refine Fr.need_ rfl (Fr.need_ (by decide) (Fr.need_ (by decide) (Fr.need_ (by decide) (Fr.need_ (by decide) (Fr.need_ (by decide) (Fr.need_ (by decide) (Fr.need_ ?_ (Fr.need_ ?_ (Fr.need_ ?_ (Fr.need_ ?_ (Fr.need_ (by decide) ⟨trivial, ?_⟩)))))))))))
 ·rw [ey1]; decide
 ·rw [ey0]; exact more_no ⟨k3, k4⟩
 ·rw [ey1]; decide
 ·rw [ey0]; exact more_no ⟨k7, k8⟩
 ·exact Prod.ext g1 (Prod.ext g2 rfl)
def cDivW : Ct := ⟨[dU, dU, dU], [u64, u64], fun x => ((x.1 * 18446744073709551616 + x.2.1) / x.2.2.1, (x.1 * 18446744073709551616 + x.2.1) % x.2.2.1, ()), fun x => [(x.1 = 0 /\ 0 < x.2.2.1) ∨ (x.2.2.1 = 10000 /\ x.1 < 10000)]⟩
theorem divW_0 {lo y : Int} (b2 : 0 <= lo /\ lo <= 18446744073709551615) (hy : 0 < y) : (frDivW (0, lo, y, ())).ok /\ (frDivW (0, lo, y, ())).get = ((0 * 18446744073709551616 + lo) / y, (0 * 18446744073709551616 + lo) % y, ()) := by
 rw [Int.zero_mul, Int.zero_add]
 have e1 : (y == 0) = false := by simp; omega
 have e2 : ¬ y <= (0 : Int) := by omega
 have e3 : y ≠ 0 := by omega
 refine Fr.br_f e1 (Fr.br_f (decide_eq_false e2) (Fr.br_t rfl (Fr.need_ e3 (Fr.need_ e3 ⟨trivial, ?_⟩))))
 exact Prod.ext (IntWalk.u64_quo lo y ⟨b2.1, b2.2, by omega⟩) (Prod.ext (IntWalk.rem_in lo y b2.1) rfl)
theorem divW_ok : SoundCt Try.prog 135 cDivW :=
  convF div_run _ _ (fun w F x vs hr hok => by
    obtain ⟨hi, lo, y, _⟩ := x
    obtain ⟨v1, vs1, rfl, h1, v2, vs2, rfl, h2, v3, vs3, rfl, h3, _⟩ := hr
    have b1 : 0 <= hi /\ hi <= 18446744073709551615 := u64_of h1
    have b2 : 0 <= lo /\ lo <= 18446744073709551615 := u64_of h2
    have hok' : (hi = 0 /\ 0 < y) ∨ (y = 10000 /\ hi < 10000) := hok
    have hcase : (hi = 0 /\ 0 < y) ∨ (hi ≠ 0 /\ y = 10000 /\ hi < 10000) := by
      clear hok
      by_cases hz : hi = 0
      · exact .inl ⟨hz, by rcases hok' with h | h
                           · exact h.2
                           · rw [h.1]; decide⟩
      · rcases hok' with h | h
        · exact absurd h.1 hz
        · exact .inr ⟨hz, h⟩
    rcases hcase with ⟨rfl, hy⟩ | ⟨h0, rfl, hlt⟩
    · exact divW_0 b2 hy
    · exact divW_plain h0 ⟨b1.1, hlt⟩ b2)
def scopeOf : Code -> Code
 | .seq _ (.scope c) => c
 | _ => .skip
def headOf : Code -> Code
 | .seq a _ => a
 | _ => .skip
noncomputable def bandC : Code := (Try.f80.body.map scopeOf).getD .skip
noncomputable def bandA : Code := (Try.f80.body.map headOf).getD .skip
noncomputable def bandR : Code := (findLabel bandC 0).getD .skip
def MBd : LS := ⟨[(0, .d (.sl bandT)), (1, .d i64)], []⟩
def ptBd : Pt := ⟨20, 0, MBd, ⟨[], []⟩, ⟨[(4, .d i64)], []⟩⟩
noncomputable def CB0 : Cx := cx [] []
theorem CB0_ok : CxOK Try.prog CB0 := cx_ok (cs := []) (ps := []) mixed trivial trivial
def fBd (x : MBd.X) : Fr ptBd.Out :=
 match x with
 | ((l, a, _), _) => Fr.br ((l.length : Int) == 0) (Fr.val (Rd.back ((10000, ()), ())))
  (Fr.need (0 <= (0 : Int) /\ (0 : Int) < l.length)
   (Fr.br (decide ((l.getD (Int.toNat 0) bandT.dflt).1 < a))
    (Fr.need (0 <= (some (1 : Int)).getD 0 /\ (some (1 : Int)).getD 0 <= (none : Option Int).getD l.length /\ (none : Option Int).getD l.length <= l.length)
     (Fr.val (Rd.next ((List.take ((none : Option Int).getD l.length - (some (1 : Int)).getD 0).toNat (List.drop ((some (1 : Int)).getD 0).toNat l), a, ()), ()))))
    (Fr.need (0 <= (0 : Int) /\ (0 : Int) < l.length) (Fr.val (Rd.back (((l.getD (Int.toNat 0) bandT.dflt).2.1, ()), ()))))))
def FBdJ (x : MBd.X) : Fr ptBd.Out := Fr.val (.back ((bandD x.1.2.1 x.1.1 10000, ()), ()))
theorem semBC : DoesJ Try.prog 0 bandC MBd ptBd fBd := DoesJ.of_run CB0_ok (bs := 0) rfl rfl rfl (fun _ => lam0_ok _ 0) (fun x => by kernel_rfl)
theorem semBR : DoesJ Try.prog 0 bandR MBd ptBd fBd := DoesJ.of_run CB0_ok (bs := 0) rfl rfl rfl (fun _ => lam0_ok _ 0) (fun x => by kernel_rfl)
theorem bandLaw (l : List bandT.den) (a : Int) (Q : ptBd.Out -> Prop) (hq : Q (.back ((bandD a l 10000, ()), ()))) :
  (fBd ((l, a, ()), ())).satP fun
   | .next x' => True /\ x'.1.1.length < l.length /\ (FBdJ x').satP Q
   | .out y => Q (.out y)
   | .back z => Q (.back z)
   | .pan p => Q (.pan p) := by
 cases l with
 | nil => exact ⟨fun _ => hq, fun h => by cases h⟩
 | cons b r =>
  have h0 : (0 : Int) < ((b :: r).length : Int) := by simp only [List.length_cons]; omega
  have h1 : (((b :: r).length : Int) == 0) = false := by simp; omega
  refine ⟨fun h => (by rw [h1] at h; cases h), fun _ => ⟨⟨Int.le_refl 0, h0⟩, fun h => ⟨⟨by decide, ?_, Int.le_refl _⟩, trivial, ?_, ?_⟩, fun h => ⟨⟨Int.le_refl 0, h0⟩, ?_⟩⟩⟩
  ·show (1 : Int) <= ((b :: r).length : Int)
   omega
  ·show (List.take (((b :: r).length : Int) - 1).toNat r).length < (b :: r).length
   rw [List.length_take]
   simp only [List.length_cons]
   omega
  ·show Q (.back ((bandD a (List.take (((b :: r).length : Int) - 1).toNat r) 10000, ()), ()))
   have e : List.take (((b :: r).length : Int) - 1).toNat r = r := List.take_of_length_le (by simp)
   have hc : b.1 < a := of_decide_eq_true h
   rw [e]
   have : bandD a (b :: r) 10000 = bandD a r 10000 := if_pos hc
   rw [← this]
   exact hq
  ·have hc : ¬ b.1 < a := of_decide_eq_false h
   have : bandD a (b :: r) 10000 = b.2.1 := if_neg hc
   rw [this] at hq
   exact hq
theorem bandS : Does Try.prog (.scope bandC) MBd ptBd FBdJ :=
 DoesJ.scope (n := 20) (id := 0) (N := MBd) (rest := bandR) (by kernel_rfl) semBC semBR (inv := fun _ => True) (μ := fun x => x.1.1.length)
  (by
   rintro ⟨⟨l, a, _⟩, _⟩ _ Q hq
   exact bandLaw l a Q hq)
  (fun _ _ _ => trivial)
theorem band_ok : SoundCt Try.prog 80 cBand :=
 convF (fx_sound (run := thenA (codeA Try.prog CB0 0 lam0 bandA 0) (ptBd.han CB0.Γ MBd FBdJ)) (fn := Try.f80) (c := .seq bandA (.scope bandC)) (ps := [.d (.sl bandT), .d i64]) (rs := [i64])
  (fr := fun x => Fr.val (bandD x.2.1 x.1 10000, ())) ([], 0, ()) (by kernel_rfl) (by kernel_rfl)
  (fun E => thenA_run (codeA_run CB0_ok (lam0_ok _ 0)) (Does.run CB0_ok rfl bandS)) (fun x => by kernel_rfl)) _ _ (fun _ _ _ _ _ _ => ⟨trivial, rfl⟩)
def frClone (T : Ty) (n : Nat) (x : denP [.d (.sl T)]) : Fr (denL [.sl T]) :=
 Fr.need (x.1 = [] ->
   (Fr.br true (Fr.val (([] : List T.den), ())) (Fr.need (([] : List T.den).length + x.1.length <= maxLen /\ (([] : List T.den).length + x.1.length) * n <= 140737488355328) (Fr.val (([] : List T.den) ++ x.1, ())))).ok /\
   (Fr.br true (Fr.val (([] : List T.den), ())) (Fr.need (([] : List T.den).length + x.1.length <= maxLen /\ (([] : List T.den).length + x.1.length) * n <= 140737488355328) (Fr.val (([] : List T.den) ++ x.1, ())))).get =
    (Fr.br false (Fr.val (([] : List T.den), ())) (Fr.need (([] : List T.den).length + x.1.length <= maxLen /\ (([] : List T.den).length + x.1.length) * n <= 140737488355328) (Fr.val (([] : List T.den) ++ x.1, ())))).get)
  (Fr.br false (Fr.val (([] : List T.den), ())) (Fr.need (([] : List T.den).length + x.1.length <= maxLen /\ (([] : List T.den).length + x.1.length) * n <= 140737488355328) (Fr.val (([] : List T.den) ++ x.1, ()))))
def cClone (T : Ty) : Ct := ⟨[.d (.sl T)], [.sl T], fun x => (x.1, ()), fun x => [x.1.length <= 1000000]⟩
theorem clone_eq {T : Ty} {n : Nat} (hn : n <= 1000) {l : List T.den} (hl : l.length <= 1000000) : (frClone T n (l, ())).ok /\ (frClone T n (l, ())).get = (l, ()) := by
 have h1 : ([] : List T.den).length + l.length <= maxLen /\ (([] : List T.den).length + l.length) * n <= 140737488355328 := by
  refine ⟨by simp only [List.length_nil]; unfold maxLen; omega, ?_⟩
  have : (([] : List T.den).length + l.length) * n <= 1000000 * 1000 := Nat.mul_le_mul (by simp only [List.length_nil]; omega) hn
  omega
 refine Fr.need_ (fun h => ?_) (Fr.br_f rfl (Fr.need_ h1 ⟨trivial, rfl⟩))
 subst h
 exact ⟨⟨fun _ => trivial, fun h => by cases h⟩, rfl⟩
noncomputable def CI17 : Cx := cx [] []
theorem CI17_ok : CxOK Try.prog CI17 := cx_ok (cs := []) (ps := []) mixed trivial trivial
theorem cloneB_ok : SoundCt Try.prog 75 (cClone bandT) :=
 convF (fn_sound CI17_ok (Λ := lam0) (fn := Try.f75) (fr := frClone bandT 16) (ps := [.d (.sl bandT)]) (rs := [.sl bandT]) ([], ()) (by kernel_rfl) (fun c E _ => lam0_ok c 0) (fun x => by kernel_rfl)) _ _
  (fun _ _ x _ _ hok => clone_eq (by decide) hok)
theorem cloneI_ok : SoundCt Try.prog 76 (cClone i64) :=
 convF (fn_sound CI17_ok (Λ := lam0) (fn := Try.f76) (fr := frClone i64 8) (ps := [.d (.sl i64)]) (rs := [.sl i64]) ([], ()) (by kernel_rfl) (fun c E _ => lam0_ok c 0) (fun x => by kernel_rfl)) _ _
  (fun _ _ x _ _ hok => clone_eq (by decide) hok)
def findI (g : Int -> Bool) : List Int -> Int -> Option Int
 | [], _ => none
 | x :: r, i => if g x = true then some i else findI g r (i + 1)
abbrev fnB : PT := .fn [i64] [.bool]
def MIx : LS := ⟨[(0, .d ints), (1, fnB), (7, .d i64), (8, .d i64)], []⟩
def ptIx : Pt := ⟨19, 0, MIx, ⟨[], []⟩, ⟨[(4, .d i64)], []⟩⟩
def fIx (x : MIx.X) : Fr ptIx.Out :=
 match x with
 | ((l, g, n, i, _), _) => Fr.br (decide (i < n))
  (Fr.need (0 <= i /\ i < l.length)
   (Fr.br (g (l.getD i.toNat i64.dflt, ())).1 (Fr.val (Rd.back ((i, ()), ())))
    (Fr.val (Rd.next ((l, g, n, IntKind.i64.wrap (i + 1), ()), ())))))
  (Fr.val (Rd.out ((), ())))
def InIx (l : List Int) (n i : Int) : Prop := 0 <= i /\ i <= n /\ n = l.length /\ n <= 9223372036854775807
def FIx (x : MIx.X) : Fr ptIx.Out :=
 Fr.need (InIx x.1.1 x.1.2.2.1 x.1.2.2.2.1) (Fr.br (findI (fun n => (x.1.2.1 (n, ())).1) (x.1.1.drop x.1.2.2.2.1.toNat) x.1.2.2.2.1).isSome
   (Fr.val (.back (((findI (fun n => (x.1.2.1 (n, ())).1) (x.1.1.drop x.1.2.2.2.1.toNat) x.1.2.2.2.1).getD (-1), ()), ()))) (Fr.val (.out ((), ()))))
theorem semIx : Does Try.prog (loopF Try.f128 0) MIx ptIx fIx := Does.of_run CI17_ok (bs := 0) rfl rfl rfl (fun _ => lam0_ok _ 0) (fun x => by kernel_rfl)
theorem lawIx (l : List Int) (g : denL [i64] -> denL [.bool]) (n i : Int) (hinv : InIx l n i) (Q : ptIx.Out -> Prop) (hq : (Fr.br (findI (fun n => (g (n, ())).1) (l.drop i.toNat) i).isSome (Fr.val (Rd.back (((findI (fun n => (g (n, ())).1) (l.drop i.toNat) i).getD (-1), ()), ()))) (Fr.val (Rd.out ((), ())))  : Fr ptIx.Out).satP Q) :
  (fIx ((l, g, n, i, ()), ())).satP fun
   | .next x' => InIx x'.1.1 x'.1.2.2.1 x'.1.2.2.2.1 /\ (x'.1.2.2.1 - x'.1.2.2.2.1).toNat < (n - i).toNat /\ (FIx x').satP Q
   | .out y => Q (.out y)
   | .back z => Q (.back z)
   | .pan p => Q (.pan p) := by
 obtain ⟨h1, h2, h3, h4⟩ := hinv
 subst h3
 refine ⟨fun hi => ?_, fun hi => ?_⟩
 ·have hi' : i < (l.length : Int) := of_decide_eq_true hi
  obtain ⟨k, rfl⟩ : ∃ k : Nat, i = k := ⟨i.toNat, by omega⟩
  have hl : k < l.length := by omega
  have g1 : l.getD (k : Int).toNat i64.dflt = l[k] := by
   rw [show (k : Int).toNat = k by omega, List.getD_eq_getElem?_getD, List.getElem?_eq_getElem hl]; rfl
  have hw : IntKind.i64.wrap ((k : Int) + 1) = k + 1 := IntWalk.i64_in _ (by omega)
  have hd : l.drop (k : Int).toNat = l[k] :: l.drop (k + 1) := by
   rw [show (k : Int).toNat = k by omega]
   exact (List.drop_eq_getElem_cons hl)
  rw [hd] at hq
  dsimp only [fIx, Fr.satP]
  rw [g1, hw]
  refine ⟨⟨by omega, by omega⟩, fun hb => ?_, fun hb => ?_⟩
  ·have : findI (fun n => (g (n, ())).1) (l[k] :: l.drop (k + 1)) k = some (k : Int) := if_pos hb
   rw [this] at hq
   exact hq.1 rfl
  ·have hb' : ¬ (g (l[k], ())).1 = true := by rw [hb]; decide
   have : findI (fun n => (g (n, ())).1) (l[k] :: l.drop (k + 1)) k = findI (fun n => (g (n, ())).1) (l.drop (k + 1)) (k + 1) := if_neg hb'
   rw [this] at hq
   have hI : InIx l l.length ((k : Int) + 1) := ⟨by omega, by omega, rfl, h4⟩
   refine ⟨hI, by omega, hI, ?_⟩
   rw [show ((k : Int) + 1).toNat = k + 1 by omega]
   exact hq
 ·have hi' : ¬ i < (l.length : Int) := of_decide_eq_false hi
  have e : l.drop i.toNat = [] := List.drop_eq_nil_of_le (by omega)
  rw [e] at hq
  exact hq.2 rfl
theorem loopIx : Does Try.prog (.loop (loopF Try.f128 0)) MIx ptIx FIx := by
 refine Does.loop (n := 19) (id := 0) semIx (inv := fun x => InIx x.1.1 x.1.2.2.1 x.1.2.2.2.1) (μ := fun x => (x.1.2.2.1 - x.1.2.2.2.1).toNat) ?_ (fun x Q h => h.1)
 rintro ⟨⟨l, g, n, i, _⟩, _⟩ hinv Q hq
 exact lawIx l g n i hinv Q hq.2
def cIdx : Ct := ⟨[.d ints, fnB], [i64], fun x => ((findI (fun n => (x.2.1 (n, ())).1) x.1 0).getD (-1), ()), fun _ => []⟩
theorem idx_ok : SoundCt Try.prog 128 cIdx :=
 convF (fn_sound CI17_ok (Λ := fun _ => ptIx.han CI17.Γ MIx FIx) (fn := Try.f128) (ps := [.d ints, fnB]) (rs := [i64])
  (fr := fun x => Fr.need (InIx x.1 x.1.length 0) (Fr.br (findI (fun n => (x.2.1 (n, ())).1) x.1 0).isSome (Fr.val ((findI (fun n => (x.2.1 (n, ())).1) x.1 0).getD (-1), ())) (Fr.val (-1, ())))) ([], fun _ => (false, ()), ()) (by kernel_rfl)
  (fun c E hc => lam1f hc (by kernel_rfl) (b := loopF Try.f128 0) (by kernel_rfl) (Does.han CI17_ok rfl loopIx)) (fun x => by kernel_rfl)) _ _ (fun w F x vs hr _ => by
  obtain ⟨l, g, _⟩ := x
  obtain ⟨v, vs', rfl, hv, _⟩ := hr
  have hlen : (l.length : Int) <= 9223372036854775807 := wf_len hv
  have hI : InIx l l.length 0 := ⟨by omega, by omega, rfl, hlen⟩
  refine Fr.need_ hI ?_
  cases hf : findI (fun n => (g (n, ())).1) l 0 with
  | some k => exact Fr.br_t rfl ⟨trivial, rfl⟩
  | none => exact Fr.br_f rfl ⟨trivial, rfl⟩)
theorem findI_some (g : Int -> Bool) : (l : List Int) -> (i : Int) -> 0 <= i -> decide ((findI g l i).getD (-1) ≥ 0) = l.any g
 | [], i, _ => rfl
 | x :: r, i, h => by
  unfold findI
  simp only [List.any_cons]
  split
  ·rename_i hg
   rw [hg]
   simpa using h
  ·rename_i hg
   rw [findI_some g r (i + 1) (by omega)]
   simp only [Bool.not_eq_true] at hg
   rw [hg]
   rfl
def cAny : Ct := ⟨[.d ints, fnB], [.bool], fun x => (x.1.any fun n => (x.2.1 (n, ())).1, ()), fun _ => []⟩
noncomputable def CI17b : Cx := cx [(128, cIdx)] []
theorem CI17b_ok : CxOK Try.prog CI17b := cx_ok mixed ⟨idx_ok, trivial⟩ trivial
theorem any_ok : SoundCt Try.prog 115 cAny :=
 convF (fn_sound CI17b_ok (Λ := lam0) (fn := Try.f115) (fr := fun x => Fr.val (decide ((cIdx.f (x.1, x.2.1, ())).1 ≥ 0), ())) (ps := [.d ints, fnB]) (rs := [.bool]) ([], fun _ => (false, ()), ()) (by kernel_rfl) (fun c E _ => lam0_ok c 0) (fun x => by kernel_rfl)) _ _
  (fun _ _ x _ _ _ => by
   obtain ⟨l, g, _⟩ := x
   exact ⟨trivial, Prod.ext (findI_some (fun n => (g (n, ())).1) l 0 (Int.le_refl 0)) rfl⟩)
def facBad (n : Int) : Bool := bif decide (n < 0) then true else decide (n > 100000)
def cFacBad : Ct := ⟨[.d i64], [.bool], fun x => (facBad x.1, ()), fun _ => []⟩
theorem facBad_ok : SoundCt Try.prog 116 cFacBad :=
 convF (fn_sound CI17_ok (Λ := lam0) (fn := Try.f116) (fr := fun x => Fr.val (facBad x.1, ())) (ps := [.d i64]) (rs := [.bool]) (0, ()) (by kernel_rfl) (fun c E _ => lam0_ok c 0) (fun x => by kernel_rfl)) _ _ (fun _ _ _ _ _ _ => ⟨trivial, rfl⟩)
theorem facs_eq (l : List Int) : (!l.any facBad) = factorsB l := by
 unfold factorsB
 rw [List.not_any_eq_all_not]
 congr 1
 funext n
 unfold facBad
 rw [Bool.eq_iff_iff]
 by_cases h : n < 0
 ·simp [h]; omega
 ·simp [h]; omega
noncomputable def CI17c : Cx := cx [(115, cAny), (116, cFacBad)] []
theorem CI17c_ok : CxOK Try.prog CI17c := cx_ok mixed ⟨any_ok, facBad_ok, trivial⟩ trivial
theorem facs_ok : SoundCt Try.prog 83 cFactors :=
 convF (fn_sound CI17c_ok (Λ := lam0) (fn := Try.f83) (fr := fun x => Fr.need (∀ (y : denL [i64]), WfL [i64] y -> True) (Fr.val (!(cAny.f (x.1, fun y => cFacBad.f (y.1, ()), ())).1, ()))) (ps := [.d ints]) (rs := [.bool]) ([], ()) (by kernel_rfl) (fun c E _ => lam0_ok c 0) (fun x => by kernel_rfl)) _ _
  (fun _ _ x _ _ _ => by
   obtain ⟨l, _⟩ := x
   exact ⟨⟨fun _ _ => trivial, trivial⟩, Prod.ext (facs_eq l) rfl⟩)
def verB (v : verT.den) : Bool :=
 decide (1 <= v.1 /\ v.1 <= 292194 /\ 0 <= v.2.2.2.2.2.1 /\ v.2.2.2.2.2.1 <= 1000000000000000 /\ v.2.2.1.length <= 100 /\ 1 <= v.2.2.2.1.length /\ v.2.2.2.1.length <= 100 /\ v.2.2.2.2.1.length = 8) &&
  (factorsB [v.2.1.1, v.2.1.2.1, v.2.1.2.2.1, v.2.1.2.2.2.1] && (factorsB v.2.2.2.1 && (factorsB v.2.2.2.2.1 && bandsL v.2.2.1)))
def cVer : Ct := ⟨[.d verT], [.bool], fun x => (verB x.1, ()), fun _ => []⟩
noncomputable def CI17d : Cx := cx [(83, cFactors), (84, cBands), (75, cClone bandT), (76, cClone i64)] []
theorem CI17d_ok : CxOK Try.prog CI17d := cx_ok mixed ⟨facs_ok, bands_ok, cloneB_ok, cloneI_ok, trivial⟩ trivial
def ver1 (a b : Int) : Bool := bif bif bif decide (a < 1) then true else decide (a > 292194) then true else decide (b < 0) then true else decide (b > 1000000000000000)
def ver2 (n z p : Nat) : Bool := bif bif bif decide ((n : Int) > 100) then true else decide ((z : Int) < 1) then true else decide ((z : Int) > 100) then true else (p : Int) != 8
def frVer (x : denP [.d verT]) : Fr (denL [.bool]) :=
 Fr.br (ver1 x.1.1 x.1.2.2.2.2.2.1) (Fr.val (false, ()))
  (Fr.br (ver2 x.1.2.2.1.length x.1.2.2.2.1.length x.1.2.2.2.2.1.length) (Fr.val (false, ()))
   (Fr.val (bif bif bif (cFactors.f ([x.1.2.1.1, x.1.2.1.2.1, x.1.2.1.2.2.1, x.1.2.1.2.2.2.1], ())).1 then (cFactors.f (x.1.2.2.2.1, ())).1 else false then (cFactors.f (x.1.2.2.2.2.1, ())).1 else false then (cBands.f (x.1.2.2.1, ())).1 else false, ())))
theorem ver_dec (a b : Int) (n z p : Nat) : (!(ver1 a b || ver2 n z p)) = decide (1 <= a /\ a <= 292194 /\ 0 <= b /\ b <= 1000000000000000 /\ n <= 100 /\ 1 <= z /\ z <= 100 /\ p = 8) := by
 have e1 : ver1 a b = decide (a < 1 ∨ a > 292194 ∨ b < 0 ∨ b > 1000000000000000) := by
  unfold ver1
  simp only [cond_eq_ite, Bool.decide_or]
  cases decide (a < 1) <;> cases decide (a > 292194) <;> cases decide (b < 0) <;> simp
 have e2 : ver2 n z p = decide ((n : Int) > 100 ∨ (z : Int) < 1 ∨ (z : Int) > 100 ∨ (p : Int) ≠ 8) := by
  unfold ver2
  simp only [cond_eq_ite, Bool.decide_or]
  cases decide ((n : Int) > 100) <;> cases decide ((z : Int) < 1) <;> cases decide ((z : Int) > 100) <;> simp [bne, Bool.beq_eq_decide_eq]
 rw [e1, e2, Bool.eq_iff_iff]
 simp only [Bool.not_eq_true', Bool.or_eq_false_iff, decide_eq_false_iff_not, decide_eq_true_eq]
 omega
theorem tVer_ok : SoundCt Try.prog 52 cVer :=
 convF (fn_sound CI17d_ok (Λ := lam0) (fn := Try.f52) (fr := frVer) (ps := [.d verT]) (rs := [.bool]) (verT.dflt, ()) (by kernel_rfl) (fun c E _ => lam0_ok c 0) (fun x => by kernel_rfl)) _ _
  (fun _ _ x _ _ _ => by
   obtain ⟨v, _⟩ := x
   show (frVer (v, ())).ok /\ (frVer (v, ())).get = (verB v, ())
   unfold verB
   rw [← ver_dec]
   unfold frVer
   cases h1 : ver1 v.1 v.2.2.2.2.2.1 with
   | true => exact Fr.br_t rfl ⟨trivial, rfl⟩
   | false =>
    refine Fr.br_f rfl ?_
    cases h2 : ver2 v.2.2.1.length v.2.2.2.1.length v.2.2.2.2.1.length with
    | true => exact Fr.br_t rfl ⟨trivial, rfl⟩
    | false =>
     refine Fr.br_f rfl ⟨trivial, Prod.ext ?_ rfl⟩
     show (bif bif bif factorsB _ then factorsB _ else false then factorsB _ else false then bandsL _ else false) = _
     cases factorsB [v.2.1.1, v.2.1.2.1, v.2.1.2.2.1, v.2.1.2.2.2.1] <;> cases factorsB v.2.2.2.1 <;> cases factorsB v.2.2.2.2.1 <;> rfl)
def verFew (v : verT.den) : Prop := v.2.2.1.length <= 1000000 /\ v.2.2.2.1.length <= 1000000 /\ v.2.2.2.2.1.length <= 1000000
def cOwn : Ct := ⟨[.d verT], [verT], fun x => (x.1, ()), fun x => [verFew x.1]⟩
theorem own_ok : SoundCt Try.prog 48 cOwn :=
 convF (fn_sound CI17d_ok (Λ := lam0) (fn := Try.f48) (fr := fun x => Fr.need (x.1.2.2.1.length <= 1000000) (Fr.need (x.1.2.2.2.1.length <= 1000000) (Fr.need (x.1.2.2.2.2.1.length <= 1000000) (Fr.val (x.1, ()))))) (ps := [.d verT]) (rs := [verT]) (verT.dflt, ()) (by kernel_rfl) (fun c E _ => lam0_ok c 0) (fun x => by kernel_rfl)) _ _
  (fun _ _ x _ _ hok => ⟨⟨hok.1, hok.2.1, hok.2.2, trivial⟩, rfl⟩)
end Go.Proofs.Ytplkgghjldndkaa
namespace Go.Proofs.Ytplkgghjldndkaa
open Go Go.Ab Go.RowKit Go.Proofs Go.Shelf
attribute [local go_sem] Oper.semAt_some
def firstN (f : Nat -> Nat) (k : Nat) : List Nat := (List.range k).map f
theorem firstN_succ (f : Nat -> Nat) (k : Nat) : firstN f (k + 1) = firstN f k ++ [f k] := by simp [firstN, List.range_succ]
theorem firstN_length (f : Nat -> Nat) (k : Nat) : (firstN f k).length = k := by simp [firstN]
def verV (c : Nat -> Nat -> Value) (k : Nat) : Value := .agg #[c k 0, c k 1, c k 2, c k 3, c k 4, c k 5, c k 6, c k 7, c k 8]
set_option maxRecDepth 100000 in
set_option maxHeartbeats 2000000 in
theorem back1_in (n : Nat) (hn : 1 <= n) (l Bs n₀ b off len cap : Nat) (c : Nat -> Nat -> Value) (hreach : len <= 1000000) (A : Option Addr) (hA : 0 < len -> A = some ⟨b, off, none⟩ /\ b < n₀) (J Jx : List (Fin len) -> World -> Prop)
  (hY : ∀ pre (k : Fin len) W, J pre W -> pre.length < len -> YieldAt Fence.wide (n - 1) Try.prog l #[.int .i64 ((k.1 : Nat) : Int), verV c k.1] W fun e W' =>
   (e = .returned (.bool true) /\ J (pre ++ [k]) W' /\ KpS n₀ Bs Bs W W') ∨ (e = .returned (.bool false) /\ Jx (pre ++ [k]) W'))
  (W : World) (hBs : W.heap[Bs]? = some (.cells #[.slice A len cap] 36 (0, 0))) (hc : ∀ k j, k < len -> j < 9 -> W.cell? ⟨b, off + (k * 9 + j), none⟩ = some (c k j)) (h0 : J [] W) :
  CallsIn Fence.wide n Try.prog 74 #[.func (.yield l) #[] #[], .pointer (some ⟨Bs, 0, none⟩)] W fun e W' => (∃ v, e = .returned v) /\
   ((∃ ys : List (Fin len), ys.map Fin.val = firstN (fun j => len - 1 - j) len /\ J ys W') ∨ (∃ pre : List (Fin len), (∃ k, k <= len /\ pre.map Fin.val = firstN (fun j => len - 1 - j) k) /\ Jx pre W')) := by
 have hro : Fence.wide.round = none := rfl
 refine callsIn_of_wp Try.func74 rfl trivial ?_ hro
 simp only [Try.ntmps74, List.size_toArray, List.length_cons, List.length_nil, Nat.reduceAdd, Nat.reduceSub, Array.replicate_succ, Array.replicate_zero, List.push_toArray, List.append_toArray, List.nil_append, List.cons_append]
 have c0 : W.cell? ⟨Bs, 0, none⟩ = some (.slice A len cap) := cell_of_block hBs 0
 gi_wp2
 gi_loopw [3] (fun i wr => ∃ (k : Nat) (pre : List (Fin len)), k <= len /\ i = .int .i64 ((len : Int) - 1 - k) /\ pre.map Fin.val = firstN (fun j => len - 1 - j) k /\ J pre wr /\ KpS n₀ Bs Bs W wr)
  (fun i _ => (intOf i + 1).toNat)
 case atStart => exact ⟨0, [], Nat.zero_le _, by simp, rfl, h0, KpS.refl _ _ _ _⟩
 case round =>
  obtain ⟨k, pre, hk, rfl, hpre, hJs, hnx⟩ := hrel
  have e0 : wr.cell? ⟨Bs, 0, none⟩ = some (.slice A len cap) := cell_of_block (hnx.2.1.trans hBs) 0
  by_cases hlt : k < len
  ·obtain ⟨rfl, hb⟩ := hA (by omega)
   obtain ⟨fn, tmps, assign, body, hy, hR⟩ := hY pre ⟨len - 1 - k, by omega⟩ wr hJs (by have := congrArg List.length hpre; rw [firstN_length, List.length_map] at this; omega)
   have hcx : ∀ j, j < 9 -> wr.cell? ⟨b, off + (len - 1 - k) * 9 + j, none⟩ = some (c (len - 1 - k) j) := fun j hj => by
    rw [Nat.add_assoc]
    exact (hnx.1.cell (p := ⟨b, off + ((len - 1 - k) * 9 + j), none⟩) hb).trans (hc _ j (by omega) hj)
   have x0 := hcx 0 (by omega)
   have x1 := hcx 1 (by omega)
   have x2 := hcx 2 (by omega)
   have x3 := hcx 3 (by omega)
   have x4 := hcx 4 (by omega)
   have x5 := hcx 5 (by omega)
   have x6 := hcx 6 (by omega)
   have x7 := hcx 7 (by omega)
   have x8 := hcx 8 (by omega)
   rw [Nat.add_zero] at x0
   have ek : ((len - 1 - k : Nat) : Int) = (len : Int) - 1 - k := by omega
   dsimp only at hy
   rw [ek] at hy
   unfold verV at hy
   clear hcx hc hBs
   gi_wp2
   refine hR.mono ?_
   rintro e W3 (⟨rfl, hJ3, hk3⟩ | ⟨rfl, hJx3⟩)
   ·gi_wp2
    go_roundw
    case rel => exact ⟨k + 1, pre ++ [⟨len - 1 - k, by omega⟩], by omega, by simp; omega, by rw [firstN_succ, List.map_append, hpre]; rfl, hJ3, hnx.trans hk3⟩
    case measure => simp [intOf]; omega
   ·gi_wp2
    refine bodyPost_ret (results_none rfl _ _ _) rfl ?_
    exact ⟨⟨_, rfl⟩, .inr ⟨_, ⟨k + 1, by omega, by rw [firstN_succ, List.map_append, hpre]; rfl⟩, hJx3⟩⟩
  ·obtain rfl : k = len := by omega
   gi_wp2
   go_end0
   exact ⟨⟨_, rfl⟩, .inl ⟨_, hpre, hJs⟩⟩
end Go.Proofs.Ytplkgghjldndkaa
namespace Go.Ab
open Go Go.RowKit
def Ty.plain : Ty -> Bool
 | .fm _ => false
 | .sl e => e.plain && decide (0 < e.size)
 | .pair a b => a.plain && b.plain
 | _ => true
theorem RepT.some_cell {w : World} {F : Nat -> Prop} : {t : Ty} -> {x : t.den} -> {g : Nat -> Value -> Prop} -> 0 < t.size -> RepT w F t x g -> ∃ j u, g j u
 | .int _, _, _, _, h => ⟨0, _, h.1⟩
 | .bool, _, _, _, h => ⟨0, _, h⟩
 | .str, _, _, _, h => ⟨0, _, h.1⟩
 | .sl _, _, _, _, h => by
  obtain ⟨A, c, h1, _⟩ := h
  exact ⟨0, _, h1⟩
 | .unit, _, _, h, _ => absurd h (by decide)
 | .pair a b, _, _, h, hr => by
  by_cases ha : 0 < a.size
  ·exact RepT.some_cell ha hr.1
  ·have hb : 0 < b.size := by simp only [Ty.size] at h; omega
   obtain ⟨j, u, hu⟩ := RepT.some_cell hb hr.2
   exact ⟨_, u, hu⟩
 | .fm _, _, _, _, h => by
  obtain ⟨r, arr, ck, h1, _⟩ := h
  exact ⟨0, _, h1⟩
theorem cell_cells {w : World} {a : Addr} {u : Value} (h : w.cell? a = some u) : ∃ arr ty p, w.heap[a.block]? = some (.cells arr ty p) := by
 unfold World.cell? at h
 split at h
 ·rename_i arr ty p he
  exact ⟨arr, ty, p, he⟩
 ·cases h
theorem RepT.only {w : World} {F G : Nat -> Prop} (hG : ∀ b, F b -> (∃ arr ty p, w.heap[b]? = some (.cells arr ty p)) -> G b) : {t : Ty} -> {x : t.den} -> {g : Nat -> Value -> Prop} -> t.plain = true -> RepT w F t x g -> RepT w G t x g
 | .int _, _, _, _, h => h
 | .bool, _, _, _, h => h
 | .str, _, _, _, h => h
 | .sl e, _, _, hp, h => by
  obtain ⟨A, c, h1, h2, h3, h4⟩ := h
  simp only [Ty.plain, Bool.and_eq_true, decide_eq_true_eq] at hp
  refine ⟨A, c, h1, h2, h3, fun i x hx => ?_⟩
  obtain ⟨ad, ha, hf, hr⟩ := h4 i x hx
  obtain ⟨j, u, hu⟩ := RepT.some_cell hp.2 hr
  have hc := cell_cells hu
  have hb : (ad.add (i * e.size + j)).block = ad.block := by unfold Addr.add; split <;> rfl
  rw [hb] at hc
  exact ⟨ad, ha, hG _ hf hc, RepT.only hG hp.1 hr⟩
 | .unit, _, _, _, _ => trivial
 | .pair a b, _, _, hp, h => by
  simp only [Ty.plain, Bool.and_eq_true] at hp
  exact ⟨RepT.only hG hp.1 h.1, RepT.only hG hp.2 h.2⟩
 | .fm _, _, _, hp, _ => by cases hp
theorem RepV.only {w : World} {F G : Nat -> Prop} (hG : ∀ b, F b -> (∃ arr ty p, w.heap[b]? = some (.cells arr ty p)) -> G b) {t : Ty} {x : t.den} {v : Value} (hp : t.plain = true) (h : RepV w F t x v) : RepV w G t x v :=
 ⟨h.1, h.2.1, h.2.2.only hG hp⟩
end Go.Ab
namespace Go.Proofs.Ytplkgghjldndkaa
open Go Go.Ab Go.RowKit Go.Proofs Go.Shelf
attribute [local go_sem] Oper.semAt_some
structure VC where
 p : Nat -> Int
 A : Nat -> Option Addr
 l : Nat -> Nat
 c : Nat -> Nat
def arr9 (d : VC) : Array Value := #[.int .i64 (d.p 0), .int .i64 (d.p 1), .int .i64 (d.p 2), .int .i64 (d.p 3), .int .i64 (d.p 4), .slice (d.A 0) (d.l 0) (d.c 0), .slice (d.A 1) (d.l 1) (d.c 1), .slice (d.A 2) (d.l 2) (d.c 2), .int .i64 (d.p 5)]
def agg9 (d : VC) : Value := .agg (arr9 d)
theorem ver_cells {w : World} {F : Nat -> Prop} {x : verT.den} {g : Nat -> Value -> Prop} (h : RepT w F verT x g) : ∃ d : VC, (∀ j u, (arr9 d)[j]? = some u -> g j u) /\ d.p 0 = x.1 := by
 obtain ⟨h0, ⟨b0, b1, b2, b3, _⟩, ⟨A1, c1, h1, _⟩, ⟨A2, c2, h2, _⟩, ⟨A3, c3, h3, _⟩, h4, _⟩ := h
 refine ⟨⟨fun j => match j with | 0 => x.1 | 1 => x.2.1.1 | 2 => x.2.1.2.1 | 3 => x.2.1.2.2.1 | 4 => x.2.1.2.2.2.1 | _ => x.2.2.2.2.2.1, fun j => match j with | 0 => A1 | 1 => A2 | _ => A3, fun j => match j with | 0 => x.2.2.1.length | 1 => x.2.2.2.1.length | _ => x.2.2.2.2.1.length, fun j => match j with | 0 => c1 | 1 => c2 | _ => c3⟩, fun j u hj => ?_, rfl⟩
 match j, hj with
 | 0, hj => cases hj; exact h0.1
 | 1, hj => cases hj; exact b0.1
 | 2, hj => cases hj; exact b1.1
 | 3, hj => cases hj; exact b2.1
 | 4, hj => cases hj; exact b3.1
 | 5, hj => cases hj; exact h1
 | 6, hj => cases hj; exact h2
 | 7, hj => cases hj; exact h3
 | 8, hj => cases hj; exact h4.1
 | j + 9, hj => simp [arr9] at hj
theorem ver_agg {w : World} {F : Nat -> Prop} {x : verT.den} {v : Value} (h : RepV w F verT x v) : ∃ d : VC, v = agg9 d /\ d.p 0 = x.1 := by
 obtain ⟨cs, rfl⟩ := h.2.1.1 rfl
 have hs : cs.size = 9 := h.1
 obtain ⟨d, hd, h0⟩ := ver_cells h.2.2
 refine ⟨d, ?_, h0⟩
 unfold agg9
 congr 1
 apply Array.ext
 ·exact hs
 ·intro i hi1 hi2
  have := hd i (arr9 d)[i] (Array.getElem?_eq_getElem hi2)
  have h2 : cs[i]? = some (arr9 d)[i] := this
  rw [Array.getElem?_eq_getElem hi1] at h2
  exact Option.some.inj h2
def zero9 : Array Value := #[.int .i64 0, .int .i64 0, .int .i64 0, .int .i64 0, .int .i64 0, .slice none 0 0, .slice none 0 0, .slice none 0 0, .int .i64 0]
def OwnRes (F : Nat -> Prop) (x : verT.den) (d : VC) (W w' : World) : Prop :=
 ∃ F', RepV w' F' verT x (agg9 d) /\ ∀ b, F' b -> (F b ∨ W.heap.size <= b) /\ ∃ arr ty p, w'.heap[b]? = some (.cells arr ty p)
theorem own_calls {w W : World} {F : Nat -> Prop} {x : verT.den} {v : Value} (hb : ∀ b, F b -> b < w.heap.size) (hW : Below w.heap.size w W) (hx : RepV w F verT x v) (hf : verFew x) :
  Calls Try.prog 48 #[v] W fun e w' => ∃ d, e = .returned (agg9 d) /\ Below W.heap.size W w' /\ OwnRes F x d W w' := by
 have hx' : RepV W F verT x v := hx.mono (fun _ h => h) (fun b h => hW.block b (hb b h))
 refine (own_ok.2 W F (x, ()) [v] (fun b h => Nat.lt_of_lt_of_le (hb b h) hW.size) ⟨v, [], rfl, hx', rfl⟩ hf).mono ?_
 rintro e w' ⟨u, F', rfl, hbel, h1, h2, h3⟩
 have h3' : RepV w' F' verT x u := h3
 obtain ⟨d, rfl, _⟩ := ver_agg h3'
 exact ⟨d, rfl, hbel, fun b => F' b /\ ∃ arr ty p, w'.heap[b]? = some (.cells arr ty p), h3'.only (fun b h hc => ⟨h, hc⟩) rfl, fun b h => ⟨(h2 b h.1).1, h.2⟩⟩
structure AtI (w : World) {len : Nat} (day : Int) (sv : Value) (fr : Nat -> Int) (pre : List (Fin len)) (W : World) : Prop where
 x3 : Boxed W (w.heap.size + 1) 3 (.int .i64 day)
 x4 : W.heap[w.heap.size + 2]? = some (.cells zero9 62 (0, 0))
 x5 : Boxed W (w.heap.size + 3) 42 (.int .i64 0)
 xs : Boxed W (w.heap.size + 4) 36 sv
 bel : Below w.heap.size w W
 sz : w.heap.size + 5 <= W.heap.size
 no : ∀ k ∈ pre, ¬ fr k.1 <= day
structure AtX (w : World) {len : Nat} (F : Nat -> Prop) (day : Int) (x : Nat -> verT.den) (fr : Nat -> Int) (c : Code) (pre : List (Fin len)) (W : World) : Prop where
 ret : c = .ret
 res : ∃ ini k d F', pre = ini ++ [k] /\ (∀ k ∈ ini, ¬ fr k.1 <= day) /\ fr k.1 <= day /\ W.heap[w.heap.size + 2]? = some (.cells (arr9 d) 62 (0, 0)) /\ RepV W F' verT (x k.1) (agg9 d) /\ (∀ b, F' b -> (F b ∨ w.heap.size <= b) /\ ∃ arr ty p, W.heap[b]? = some (.cells arr ty p))
 x5 : Boxed W (w.heap.size + 3) 42 (.int .i64 0)
 bel : Below w.heap.size w W
theorem block_abides {X Y : World} {row : Option Nat} {B b : Nat} {cs : Array Value} {t : TypeId} {p : Nat × Nat} (h : X.heap[b]? = some (.cells cs t p)) (hg : X.grownBy Y row) (hr : ∀ r, row = some r -> B <= r /\ ∃ o : Obj, X.heap[r]? = some o /\ o.isCells = false) : Y.heap[b]? = some (.cells cs t p) :=
 (hg.block b (Array.getElem?_eq_some_iff.1 h).1 (fun e => by
  obtain ⟨_, o, ho, hc⟩ := hr b e.symm
  rw [h] at ho
  cases ho
  cases hc)).trans h
theorem atI_own {w : World} {len : Nat} {day : Int} {sv : Value} {fr : Nat -> Int} {B : Nat} (hB : w.heap.size <= B) : OwnFrom B (fun (pre : List (Fin len)) W => AtI w day sv fr pre W) := fun pre X Y row h hg hr =>
 ⟨box_abides h.x3 hg hr, block_abides h.x4 hg hr, box_abides h.x5 hg hr, box_abides h.xs hg hr, h.bel.grown hg h.bel.size (fun k e => Nat.le_trans hB (hr k e).1), Nat.le_trans h.sz hg.size, h.no⟩
theorem atX_own {w : World} {len : Nat} {F : Nat -> Prop} {day : Int} {x : Nat -> verT.den} {fr : Nat -> Int} {B : Nat} (hB : w.heap.size <= B) (c : Code) : OwnFrom B (fun (pre : List (Fin len)) W => AtX w F day x fr c pre W) := fun pre X Y row h hg hr => by
 refine ⟨h.ret, ?_, box_abides h.x5 hg hr, h.bel.grown hg h.bel.size (fun k e => Nat.le_trans hB (hr k e).1)⟩
 obtain ⟨ini, k, d, F', e1, e2, e3, e4, e5, e6⟩ := h.res
 refine ⟨ini, k, d, F', e1, e2, e3, block_abides e4 hg hr, e5.mono (fun _ h => h) (fun b hb => ?_), fun b hb => ?_⟩
 ·obtain ⟨_, arr, ty, p, hc⟩ := e6 b hb
  rw [hc]
  exact block_abides hc hg hr
 ·obtain ⟨hh, arr, ty, p, hc⟩ := e6 b hb
  exact ⟨hh, arr, ty, p, block_abides hc hg hr⟩
def AtA (w0 : Nat) (c : Nat -> VC) (a : Nat -> Nat -> Act) (k : Nat) (a' : Act) (W : World) : Prop := ∃ Bx, w0 <= Bx /\ W.heap[Bx]? = some (.cells (arr9 (c k)) 62 (0, 0)) /\ a' = a k Bx
theorem atA_own {w0 B : Nat} {c : Nat -> VC} {a : Nat -> Nat -> Act} (k : Nat) (a' : Act) : OwnFrom B (fun (_ : Unit) W => AtA w0 c a k a' W) := fun _ X Y row hs hg hr => by
 obtain ⟨Bx, h1, h2, h3⟩ := hs
 exact ⟨Bx, h1, block_abides h2 hg hr, h3⟩
set_option maxRecDepth 100000 in
set_option maxHeartbeats 1000000 in
theorem back_in (n : Nat) (A : Option Addr) (len cap : Nat) (w : World) :
  CallsIn Fence.wide n Try.prog 47 #[.slice A len cap] w fun e w' => e = .returned (.func (.func 74) #[] #[.pointer (some ⟨w.heap.size, 0, none⟩)]) /\ w' = w.alloc (.cells #[.slice A len cap] 36) := by
 refine callsIn_of_wp Try.func47 rfl trivial ?_ rfl
 simp only [Try.ntmps47, List.size_toArray, List.length_cons, List.length_nil, Nat.reduceAdd, Nat.reduceSub, Array.replicate_succ, Array.replicate_zero, List.push_toArray, List.append_toArray, List.nil_append, List.cons_append]
 gi_wp2
 go_ret
 exact ⟨rfl, rfl⟩
end Go.Proofs.Ytplkgghjldndkaa
namespace Go.Proofs.Ytplkgghjldndkaa
open Go Go.Ab Go.RowKit Go.Proofs Go.Shelf
attribute [local go_sem] Oper.semAt_some
def AtEnd (w : World) (F : Nat -> Prop) (day : Int) (x : Nat -> verT.den) (fr : Nat -> Int) (len : Nat) (e : Ending) (w' : World) : Prop :=
 (e = .returned (.tuple #[.agg zero9, .int .i64 7]) /\ ∀ k, k < len -> ¬ fr k <= day) ∨
 ∃ k d F', k < len /\ fr k <= day /\ (∀ j, k < j -> j < len -> ¬ fr j <= day) /\ e = .returned (.tuple #[agg9 d, .int .i64 0]) /\ RepV w' F' verT (x k) (agg9 d) /\ (∀ b, F' b -> (F b ∨ w.heap.size <= b) /\ b < w'.heap.size)
theorem setCells9_same {W : World} {B : Nat} {a0 a1 a2 a3 a4 a5 a6 a7 a8 : Value} {t : TypeId} (h : W.heap[B]? = some (.cells #[a0, a1, a2, a3, a4, a5, a6, a7, a8] t (0, 0))) (v0 v1 v2 v3 v4 v5 v6 v7 v8 : Value) :
  (W.setCells B 0 [v0, v1, v2, v3, v4, v5, v6, v7, v8]).heap[B]? = some (.cells #[v0, v1, v2, v3, v4, v5, v6, v7, v8] t (0, 0)) := by
 have h0 := heap_setCell_same W B 0 _ t v0 h
 rw [show (#[a0, a1, a2, a3, a4, a5, a6, a7, a8] : Array Value).setIfInBounds 0 v0 = #[v0, a1, a2, a3, a4, a5, a6, a7, a8] from rfl] at h0
 have h1 := heap_setCell_same _ B 1 _ t v1 h0
 rw [show (#[v0, a1, a2, a3, a4, a5, a6, a7, a8] : Array Value).setIfInBounds 1 v1 = #[v0, v1, a2, a3, a4, a5, a6, a7, a8] from rfl] at h1
 have h2 := heap_setCell_same _ B 2 _ t v2 h1
 rw [show (#[v0, v1, a2, a3, a4, a5, a6, a7, a8] : Array Value).setIfInBounds 2 v2 = #[v0, v1, v2, a3, a4, a5, a6, a7, a8] from rfl] at h2
 have h3 := heap_setCell_same _ B 3 _ t v3 h2
 rw [show (#[v0, v1, v2, a3, a4, a5, a6, a7, a8] : Array Value).setIfInBounds 3 v3 = #[v0, v1, v2, v3, a4, a5, a6, a7, a8] from rfl] at h3
 have h4 := heap_setCell_same _ B 4 _ t v4 h3
 rw [show (#[v0, v1, v2, v3, a4, a5, a6, a7, a8] : Array Value).setIfInBounds 4 v4 = #[v0, v1, v2, v3, v4, a5, a6, a7, a8] from rfl] at h4
 have h5 := heap_setCell_same _ B 5 _ t v5 h4
 rw [show (#[v0, v1, v2, v3, v4, a5, a6, a7, a8] : Array Value).setIfInBounds 5 v5 = #[v0, v1, v2, v3, v4, v5, a6, a7, a8] from rfl] at h5
 have h6 := heap_setCell_same _ B 6 _ t v6 h5
 rw [show (#[v0, v1, v2, v3, v4, v5, a6, a7, a8] : Array Value).setIfInBounds 6 v6 = #[v0, v1, v2, v3, v4, v5, v6, a7, a8] from rfl] at h6
 have h7 := heap_setCell_same _ B 7 _ t v7 h6
 rw [show (#[v0, v1, v2, v3, v4, v5, v6, a7, a8] : Array Value).setIfInBounds 7 v7 = #[v0, v1, v2, v3, v4, v5, v6, v7, a8] from rfl] at h7
 have h8 := heap_setCell_same _ B 8 _ t v8 h7
 rw [show (#[v0, v1, v2, v3, v4, v5, v6, v7, a8] : Array Value).setIfInBounds 8 v8 = #[v0, v1, v2, v3, v4, v5, v6, v7, v8] from rfl] at h8
 exact h8
theorem setCells_other {B k : Nat} (h : k ≠ B) : (vs : List Value) -> (o : Nat) -> (W : World) -> (W.setCells B o vs).heap[k]? = W.heap[k]?
 | [], _, _ => rfl
 | v :: r, o, W => (setCells_other h r (o + 1) _).trans (heap_setCell_other W _ k v h)
theorem setCells_below {B n : Nat} (h : n <= B) : (vs : List Value) -> (o : Nat) -> (W : World) -> Below n W (W.setCells B o vs)
 | [], _, W => Below.refl n W
 | v :: r, o, W => ((Below.refl n W).setCell (p := ⟨B, o, none⟩) h v).trans (setCells_below h r (o + 1) _)
theorem setCells_keeps {B : Nat} : (vs : List Value) -> (o : Nat) -> (W : World) -> KeepsOthers W (W.setCells B o vs)
 | [], _, W => KeepsOthers.refl W
 | v :: r, o, W => (KeepsOthers.setCell W _ v).trans (setCells_keeps r (o + 1) _)
theorem keeps_below {B : Nat} {W W' : World} (h : Below W.heap.size W W') : KeepsFrom B W W' :=
 ⟨h.size, fun k o _ hk _ => (h.block k (Array.getElem?_eq_some_iff.1 hk).1).trans hk⟩
set_option maxRecDepth 100000 in
theorem at_ret {W : World} {R : Ending -> World -> Prop} {D z : Nat} {v0 v1 v2 v3 v4 v5 v6 v7 v8 a0 a1 a2 a3 a6 a7 a8 a9 a10 a11 a12 a13 a14 a15 a16 a17 a18 a19 : Value} {n : Int}
  (z4 : W.heap[z + 2]? = some (.cells #[v0, v1, v2, v3, v4, v5, v6, v7, v8] 62 (0, 0))) (z5 : Boxed W (z + 3) 42 (.int .i64 n)) (hK : W.heap[D]? = some (.deferred (some []))) (hD : z + 5 <= D)
  (hR : R (.returned (.tuple #[.agg #[v0, v1, v2, v3, v4, v5, v6, v7, v8], .int .i64 n])) (W.putObj D (.deferred none))) :
  bodyPostM Fence.wide 8 Try.prog Try.f20 R .ret { tmps := #[a0, a1, a2, a3, .pointer (some ⟨z + 1 + 1, 0, none⟩), .pointer (some ⟨z + 1 + 1 + 1, 0, none⟩), a6, a7, a8, a9, a10, a11, a12, a13, a14, a15, a16, a17, a18, a19], defers := [{ target := .collected D, args := #[] }] } W := by
 have k4 := (World.putObj_heap_other (w := W) (r := D) (k := z + 2) (o := .deferred none) (by omega)).trans z4
 have k5 : (W.putObj D (.deferred none)).heap[z + 3]? = _ := (World.putObj_heap_other (w := W) (r := D) (k := z + 3) (o := .deferred none) (by omega)).trans z5
 have u0 := cell_of_block k4 0
 have u1 := cell_of_block k4 1
 have u2 := cell_of_block k4 2
 have u3 := cell_of_block k4 3
 have u4 := cell_of_block k4 4
 have u5 := cell_of_block k4 5
 have u6 := cell_of_block k4 6
 have u7 := cell_of_block k4 7
 have u8 := cell_of_block k4 8
 simp at u0 u1 u2 u3 u4 u5 u6 u7 u8
 have g5 := cell_of_block k5 0
 simp at g5
 refine ⟨by simp, .inl ⟨_, _, rfl, run_takeDeferred hK, ?_⟩⟩
 refine ⟨.tuple #[.agg #[v0, v1, v2, v3, v4, v5, v6, v7, v8], .int .i64 n], ?_, hR⟩
 simp [results, Try.results20, go_sem, u0, u1, u2, u3, u4, u5, u6, u7, u8, g5]
set_option maxRecDepth 100000 in
set_option maxHeartbeats 4000000 in
theorem at_in (b off len cap : Nat) (day : Int) (c : Nat -> VC) (x : Nat -> verT.den) (F : Nat -> Prop) (w : World) (hlen : len <= 1000000) (A : Option Addr) (hA : 0 < len -> A = some ⟨b, off, none⟩ /\ b < w.heap.size) (hbF : ∀ q, F q -> q < w.heap.size)
  (hc : ∀ k j u, k < len -> (arr9 (c k))[j]? = some u -> w.cell? ⟨b, off + (k * 9 + j), none⟩ = some u)
  (hown : ∀ k W, k < len -> Below w.heap.size w W -> Calls Try.prog 48 #[agg9 (c k)] W fun e w' => ∃ d, e = .returned (agg9 d) /\ Below W.heap.size W w' /\ OwnRes F (x k) d W w') :
  CallsIn Fence.wide 8 Try.prog 20 #[.agg #[.slice A len cap], .int .i64 day] w fun e w' => AtEnd w F day x (fun k => (c k).p 0) len e w' /\ Below w.heap.size w w' := by
 refine callsIn_of_wp_marks Try.func20 rfl trivial ?_ rfl
 simp only [Try.ntmps20, List.size_toArray, List.length_cons, List.length_nil, Nat.reduceAdd, Nat.reduceSub, Array.replicate_succ, Array.replicate_zero, List.push_toArray, List.append_toArray, List.nil_append, List.cons_append]
 gi_wp2_with (refine ⟨trivial, ?_⟩; gi_at_call 47; refine (back_in _ _ _ _ _).mono ?_; rintro e w' ⟨rfl, rfl⟩)
 have q1 := World.alloc_heap_new (w.alloc (.cells #[.slice A len cap] 38)) (.cells #[.int .i64 day] 3)
 have q2 := World.alloc_heap_new ((w.alloc (.cells #[.slice A len cap] 38)).alloc (.cells #[.int .i64 day] 3)) (.cells zero9 62)
 have q3 := World.alloc_heap_new (((w.alloc (.cells #[.slice A len cap] 38)).alloc (.cells #[.int .i64 day] 3)).alloc (.cells zero9 62)) (.cells #[.int .i64 0] 42)
 have q4 := World.alloc_heap_new ((((w.alloc (.cells #[.slice A len cap] 38)).alloc (.cells #[.int .i64 day] 3)).alloc (.cells zero9 62)).alloc (.cells #[.int .i64 0] 42)) (.cells #[.slice A len cap] 36)
 have hbel : Below w.heap.size w (((((w.alloc (.cells #[.slice A len cap] 38)).alloc (.cells #[.int .i64 day] 3)).alloc (.cells zero9 62)).alloc (.cells #[.int .i64 0] 42)).alloc (.cells #[.slice A len cap] 36)) :=
  (((((Below.refl _ w).alloc (Nat.le_refl _) _).alloc (by simp) _).alloc (by simp; omega) _).alloc (by simp; omega) _).alloc (by simp; omega) _
 have hsz : (((((w.alloc (.cells #[.slice A len cap] 38)).alloc (.cells #[.int .i64 day] 3)).alloc (.cells zero9 62)).alloc (.cells #[.int .i64 0] 42)).alloc (.cells #[.slice A len cap] 36)).heap.size = w.heap.size + 5 := by simp
 simp only [World.size_alloc] at q1 q2 q3 q4
 have r1 := (Below.heap_alloc ((((w.alloc (.cells #[.slice A len cap] 38)).alloc (.cells #[.int .i64 day] 3)).alloc (.cells zero9 62)).alloc (.cells #[.int .i64 0] 42)) (.cells #[.slice A len cap] 36) (w.heap.size + 1) (by simp only [World.size_alloc]; omega)).trans ((Below.heap_alloc _ _ _ (by simp only [World.size_alloc]; omega)).trans ((Below.heap_alloc _ _ _ (by simp only [World.size_alloc]; omega)).trans q1))
 have r2 := (Below.heap_alloc ((((w.alloc (.cells #[.slice A len cap] 38)).alloc (.cells #[.int .i64 day] 3)).alloc (.cells zero9 62)).alloc (.cells #[.int .i64 0] 42)) (.cells #[.slice A len cap] 36) (w.heap.size + 1 + 1) (by simp only [World.size_alloc]; omega)).trans ((Below.heap_alloc _ _ _ (by simp only [World.size_alloc]; omega)).trans q2)
 have r3 := (Below.heap_alloc ((((w.alloc (.cells #[.slice A len cap] 38)).alloc (.cells #[.int .i64 day] 3)).alloc (.cells zero9 62)).alloc (.cells #[.int .i64 0] 42)) (.cells #[.slice A len cap] 36) (w.heap.size + 1 + 1 + 1) (by simp only [World.size_alloc]; omega)).trans q3
 unfold zero9 at hbel hsz r1 r2 r3 q4
 obtain ⟨W0, hW0⟩ : ∃ W0, ((((w.alloc (.cells #[.slice A len cap] 38)).alloc (.cells #[.int .i64 day] 3)).alloc (.cells #[.int .i64 0, .int .i64 0, .int .i64 0, .int .i64 0, .int .i64 0, .slice none 0 0, .slice none 0 0, .slice none 0 0, .int .i64 0] 62)).alloc (.cells #[.int .i64 0] 42)).alloc (.cells #[.slice A len cap] 36) = W0 := ⟨_, rfl⟩
 rw [hW0] at hbel hsz r1 r2 r3 q4 ⊢
 clear hW0 q1 q2 q3
 have hI0 : AtI w day (.slice A len cap) (fun k => (c k).p 0) ([] : List (Fin len)) W0 := ⟨r1, r2, r3, q4, hbel, by omega, fun k hk => by cases hk⟩
 refine wpIn_rangeFunc_ownH rfl (by omega) (gf := 74) (lb := #[.pointer (some ⟨w.heap.size + 1 + 1 + 1 + 1, 0, none⟩)]) rfl trivial (enters_of Try.func74 (by kernel_rfl) rfl)
  (α := Fin len) (encs := fun (k : Fin len) => #[.int .i64 ((k.1 : Nat) : Int), agg9 (c k.1)]) (Kp := KpS w.heap.size (w.heap.size + 4) (w.heap.size + 4)) (S := fun ys => ys.map Fin.val = firstN (fun j => len - 1 - j) len) (Sp := fun pre => ∃ k, k <= len /\ pre.map Fin.val = firstN (fun j => len - 1 - j) k) (N := len) (w0 := W0)
  (fun l J Jx W hW _ _ hY h0 => back1_in 7 (by omega) l (w.heap.size + 4) w.heap.size b off len cap (fun k j => (arr9 (c k)).getD j undef) hlen A hA J Jx hY W ((hW.block _ (by omega)).trans q4) (fun k j hk hj => have hb := (hA (by omega)).2; ((hW.mono (by omega)).cell (p := ⟨b, off + (k * 9 + j), none⟩) hb).trans ((hbel.cell (p := ⟨b, off + (k * 9 + j), none⟩) hb).trans (hc k j _ hk (by match j, hj with | 0, _ | 1, _ | 2, _ | 3, _ | 4, _ | 5, _ | 6, _ | 7, _ | 8, _ => rfl)))) h0)
  (fun h k => h.trans k) (fun W l o o' hl ho hoc how => ⟨belowK_b (w := w) (Nat.le_refl _) W l o o' (by omega) ho hoc how, World.putObj_heap_other (by omega), World.putObj_heap_other (by omega)⟩) (Below.refl _ _) (fun _ => rfl)
  (fun pre W => AtI w day (.slice A len cap) (fun k => (c k).p 0) pre W)
  (fun cd pre W => AtX w F day x (fun k => (c k).p 0) cd pre W)
  (atI_own (by omega)) (atX_own (by omega)) hI0
  (fun k a' W => AtA W0.heap.size c (fun k Bx => { tmps := #[.agg #[.slice A len cap], .int .i64 day, .pointer (some ⟨w.heap.size, 0, none⟩), .pointer (some ⟨w.heap.size + 1, 0, none⟩), .pointer (some ⟨w.heap.size + 1 + 1, 0, none⟩), .pointer (some ⟨w.heap.size + 1 + 1 + 1, 0, none⟩), undef, .pointer (some ⟨Bx, 0, none⟩),
   .pointer (some ⟨w.heap.size, 0, none⟩), .slice A len cap, .func (.func 74) #[] #[.pointer (some ⟨w.heap.size + 1 + 1 + 1 + 1, 0, none⟩)], .int .i64 (k : Int), agg9 (c k), undef, undef, undef, undef, undef, undef, undef], defers := [] }) k.1 a' W)
  (fun k a' => atA_own k.1 a') ?assign ?body ?done ?stop
 case assign =>
  rintro l pre ⟨k, hkl⟩ W K hi hK
  unfold agg9 arr9
  gi_wp2
  have hsz1 := hi.sz
  have hB := (Below.refl w.heap.size W).alloc (by have := hi.bel.size; omega) (.cells (arr9 (c k)) 62)
  exact hK _ _ ((KeepsOthers.alloc _ _).from _) (KpS.below ((Below.refl _ W).alloc (Nat.le_refl _) _) hi.bel.size (by omega) (by omega))
   ⟨hi.x3.alloc _, (Below.heap_alloc _ _ _ (by omega)).trans hi.x4, hi.x5.alloc _, hi.xs.alloc _, hi.bel.alloc hi.bel.size _, by simp; omega, hi.no⟩ ⟨W.heap.size, by omega, World.alloc_heap_new W _, rfl⟩
 case body =>
  rintro l pre ⟨k, hkl⟩ a' W hl ⟨r, hr⟩ hi ⟨Bx, hBx, bX, rfl⟩ hlt
  have bX' := bX
  unfold arr9 at bX'
  have y0 := cell_of_block bX' 0
  have y1 := cell_of_block bX' 1
  have y2 := cell_of_block bX' 2
  have y3 := cell_of_block bX' 3
  have y4 := cell_of_block bX' 4
  have y5 := cell_of_block bX' 5
  have y6 := cell_of_block bX' 6
  have y7 := cell_of_block bX' 7
  have y8 := cell_of_block bX' 8
  simp at y0 y1 y2 y3 y4 y5 y6 y7 y8
  have c3 := hi.x3.cell
  have hown' := hown k W hkl hi.bel
  unfold agg9 arr9 at hown'
  clear bX' hr hc hown
  gi_wp2
  ·refine ⟨trivial, ?_⟩
   refine (CallsIn.inRound l (callsIn_wide.2 hown')).mono ?_
   rintro e w1 ⟨d, rfl, hb1, hres⟩
   have hsz1 := hi.sz
   have z4 := (hb1.block (w.heap.size + 2) (by omega)).trans hi.x4
   have z5 : w1.heap[w.heap.size + 3]? = _ := (hb1.block (w.heap.size + 3) (by omega)).trans hi.x5
   unfold zero9 at z4
   have u0 := cell_of_block z4 0
   have u1 := cell_of_block z4 1
   have u2 := cell_of_block z4 2
   have u3 := cell_of_block z4 3
   have u4 := cell_of_block z4 4
   have u5 := cell_of_block z4 5
   have u6 := cell_of_block z4 6
   have u7 := cell_of_block z4 7
   have u8 := cell_of_block z4 8
   simp at u0 u1 u2 u3 u4 u5 u6 u7 u8
   have ff : ∀ j, w1.frozen? ⟨w.heap.size + 2, j, none⟩ = false := fun j => by simp [World.frozen?, z4]
   have g5 := cell_of_block z5 0
   have h5 : w1.frozen? ⟨w.heap.size + 3, 0, none⟩ = false := by simp [World.frozen?, z5]
   gi_wp2
   have hday : (c k).p 0 <= day := by assumption
   have s4 := setCells9_same z4 (.int .i64 (d.p 0)) (.int .i64 (d.p 1)) (.int .i64 (d.p 2)) (.int .i64 (d.p 3)) (.int .i64 (d.p 4)) (.slice (d.A 0) (d.l 0) (d.c 0)) (.slice (d.A 1) (d.l 1) (d.c 1)) (.slice (d.A 2) (d.l 2) (d.c 2)) (.int .i64 (d.p 5))
   have s5 : Boxed (w1.setCells (w.heap.size + 2) 0 [.int .i64 (d.p 0), .int .i64 (d.p 1), .int .i64 (d.p 2), .int .i64 (d.p 3), .int .i64 (d.p 4), .slice (d.A 0) (d.l 0) (d.c 0), .slice (d.A 1) (d.l 1) (d.c 1), .slice (d.A 2) (d.l 2) (d.c 2), .int .i64 (d.p 5)]) (w.heap.size + 3) 42 (.int .i64 0) := (setCells_other (by omega) _ _ _).trans z5
   have kk := setCells_keeps (B := w.heap.size + 2) [.int .i64 (d.p 0), .int .i64 (d.p 1), .int .i64 (d.p 2), .int .i64 (d.p 3), .int .i64 (d.p 4), .slice (d.A 0) (d.l 0) (d.c 0), .slice (d.A 1) (d.l 1) (d.c 1), .slice (d.A 2) (d.l 2) (d.c 2), .int .i64 (d.p 5)] 0 w1
   have bb := setCells_below (B := w.heap.size + 2) (n := w.heap.size) (by omega) [.int .i64 (d.p 0), .int .i64 (d.p 1), .int .i64 (d.p 2), .int .i64 (d.p 3), .int .i64 (d.p 4), .slice (d.A 0) (d.l 0) (d.c 0), .slice (d.A 1) (d.l 1) (d.c 1), .slice (d.A 2) (d.l 2) (d.c 2), .int .i64 (d.p 5)] 0 w1
   have oo : ∀ q, q ≠ w.heap.size + 2 -> (w1.setCells (w.heap.size + 2) 0 [.int .i64 (d.p 0), .int .i64 (d.p 1), .int .i64 (d.p 2), .int .i64 (d.p 3), .int .i64 (d.p 4), .slice (d.A 0) (d.l 0) (d.c 0), .slice (d.A 1) (d.l 1) (d.c 1), .slice (d.A 2) (d.l 2) (d.c 2), .int .i64 (d.p 5)]).heap[q]? = w1.heap[q]? := fun q hq => setCells_other hq _ _ _
   show KeepsFrom _ W ((w1.setCells (w.heap.size + 2) 0 [.int .i64 (d.p 0), .int .i64 (d.p 1), .int .i64 (d.p 2), .int .i64 (d.p 3), .int .i64 (d.p 4), .slice (d.A 0) (d.l 0) (d.c 0), .slice (d.A 1) (d.l 1) (d.c 1), .slice (d.A 2) (d.l 2) (d.c 2), .int .i64 (d.p 5)]).setCell ⟨w.heap.size + 3, 0, none⟩ (.int .i64 0)) /\ AtX w F day x (fun k => (c k).p 0) .ret (pre ++ [⟨k, hkl⟩]) ((w1.setCells (w.heap.size + 2) 0 [.int .i64 (d.p 0), .int .i64 (d.p 1), .int .i64 (d.p 2), .int .i64 (d.p 3), .int .i64 (d.p 4), .slice (d.A 0) (d.l 0) (d.c 0), .slice (d.A 1) (d.l 1) (d.c 1), .slice (d.A 2) (d.l 2) (d.c 2), .int .i64 (d.p 5)]).setCell ⟨w.heap.size + 3, 0, none⟩ (.int .i64 0))
   generalize w1.setCells (w.heap.size + 2) 0 [.int .i64 (d.p 0), .int .i64 (d.p 1), .int .i64 (d.p 2), .int .i64 (d.p 3), .int .i64 (d.p 4), .slice (d.A 0) (d.l 0) (d.c 0), .slice (d.A 1) (d.l 1) (d.c 1), .slice (d.A 2) (d.l 2) (d.c 2), .int .i64 (d.p 5)] = W2 at *
   obtain ⟨F', hF1, hF2⟩ := hres
   have bel2 : Below w.heap.size w W2 := (hi.bel.trans (hb1.mono hi.bel.size)).trans bb
   have hne : ∀ q, F' q -> q ≠ w.heap.size + 2 /\ q ≠ w.heap.size + 3 := fun q hq => by
    have hs0 := hi.sz
    rcases (hF2 q hq).1 with h | h
    ·have := hbF q h
     omega
    ·omega
   have hsame : ∀ q, F' q -> (W2.setCell ⟨w.heap.size + 3, 0, none⟩ (.int .i64 0)).heap[q]? = w1.heap[q]? := fun q hq => (heap_setCell_other _ _ q _ (hne q hq).2).trans (oo q (hne q hq).1)
   refine ⟨(keeps_below hb1).trans ((kk.trans (KeepsOthers.setCell _ _ _)).from _), rfl, ⟨pre, ⟨k, hkl⟩, d, F', rfl, hi.no, hday, (heap_setCell_other _ _ _ _ (by show w.heap.size + 2 ≠ w.heap.size + 3; omega)).trans s4, hF1.mono (fun _ h => h) hsame, fun q hq => ?_⟩, s5.set _, bel2.setCell (p := ⟨w.heap.size + 3, 0, none⟩) (by show w.heap.size <= w.heap.size + 3; omega) _⟩
   obtain ⟨q1, arr, ty, p, q2⟩ := hF2 q hq
   exact ⟨q1.elim .inl (fun h => .inr (Nat.le_trans hi.bel.size h)), arr, ty, p, (hsame q hq).trans q2⟩
  ·have hday : ¬ (c k).p 0 <= day := by simp_all
   exact ⟨KeepsFrom.refl _ _, KpS.refl _ _ _ _, hi.x3, hi.x4, hi.x5, hi.xs, hi.bel, hi.sz, fun q hq => (List.mem_append.1 hq).elim (hi.no q) (fun e => by simp at e; subst e; exact hday)⟩
 case done =>
  rintro D zs W hD hzs hi hK
  have z4 := hi.x4
  have z5 : W.heap[w.heap.size + 3]? = _ := hi.x5
  unfold zero9 at z4
  have u0 := cell_of_block z4 0
  have u1 := cell_of_block z4 1
  have u2 := cell_of_block z4 2
  have u3 := cell_of_block z4 3
  have u4 := cell_of_block z4 4
  have u5 := cell_of_block z4 5
  have u6 := cell_of_block z4 6
  have u7 := cell_of_block z4 7
  have u8 := cell_of_block z4 8
  simp at u0 u1 u2 u3 u4 u5 u6 u7 u8
  have ff : ∀ j, W.frozen? ⟨w.heap.size + 2, j, none⟩ = false := fun j => by simp [World.frozen?, z4]
  have g5 := cell_of_block z5 0
  have h5 : W.frozen? ⟨w.heap.size + 3, 0, none⟩ = false := by simp [World.frozen?, z5]
  clear hown hc
  gi_wp2
  have s4 := setCells9_same z4 (.int .i64 0) (.int .i64 0) (.int .i64 0) (.int .i64 0) (.int .i64 0) (.slice none 0 0) (.slice none 0 0) (.slice none 0 0) (.int .i64 0)
  have s5 : Boxed (W.setCells (w.heap.size + 2) 0 [.int .i64 0, .int .i64 0, .int .i64 0, .int .i64 0, .int .i64 0, .slice none 0 0, .slice none 0 0, .slice none 0 0, .int .i64 0]) (w.heap.size + 3) 42 (.int .i64 0) := (setCells_other (by omega) _ _ _).trans z5
  have kk := (setCells_keeps (B := w.heap.size + 2) [.int .i64 0, .int .i64 0, .int .i64 0, .int .i64 0, .int .i64 0, .slice none 0 0, .slice none 0 0, .slice none 0 0, .int .i64 0] 0 W).same D _ hK rfl
  have bb := hi.bel.trans (setCells_below (B := w.heap.size + 2) (n := w.heap.size) (by omega) [.int .i64 0, .int .i64 0, .int .i64 0, .int .i64 0, .int .i64 0, .slice none 0 0, .slice none 0 0, .slice none 0 0, .int .i64 0] 0 W)
  have kk' := (KeepsOthers.setCell (W.setCells (w.heap.size + 2) 0 [.int .i64 0, .int .i64 0, .int .i64 0, .int .i64 0, .int .i64 0, .slice none 0 0, .slice none 0 0, .slice none 0 0, .int .i64 0]) ⟨w.heap.size + 3, 0, none⟩ (.int .i64 7)).same D _ kk rfl
  have bb' := bb.setCell (p := ⟨w.heap.size + 3, 0, none⟩) (by show w.heap.size <= w.heap.size + 3; omega) (.int .i64 7)
  refine at_ret ((heap_setCell_other _ _ _ _ (by show w.heap.size + 2 ≠ w.heap.size + 3; omega)).trans s4) (s5.set (.int .i64 7)) kk' (by omega) ⟨.inl ⟨rfl, fun k hk => ?_⟩, bb'.trans (belowK_b (w := w) (Nat.le_refl _) _ D _ _ (by omega) kk' rfl rfl)⟩
  have hm : k ∈ zs.map Fin.val := by
   rw [hzs]
   exact List.mem_map.2 ⟨len - 1 - k, List.mem_range.2 (by omega), by show len - 1 - (len - 1 - k) = k; omega⟩
  obtain ⟨q, hq, rfl⟩ := List.mem_map.1 hm
  exact hi.no q hq
 case stop =>
  rintro D cd pre W hD ⟨m, hm, hpre⟩ h hK
  obtain rfl := h.ret
  gi_wp2
  obtain ⟨ini, k, d, F', e1, e2, e3, e4, e5, e6⟩ := h.res
  refine at_ret e4 h.x5 hK (by omega) ⟨.inr ⟨k.1, d, F', k.2, e3, fun j hj1 hj2 => ?_, rfl, ?_, fun q hq => ?_⟩, h.bel.trans (belowK_b (w := w) (Nat.le_refl _) _ D _ _ (by omega) hK rfl rfl)⟩
  ·subst e1
   have hl := congrArg List.length hpre
   rw [firstN_length, List.length_map, List.length_append] at hl
   obtain rfl : m = ini.length + 1 := by simpa using hl.symm
   rw [firstN_succ, List.map_append] at hpre
   obtain ⟨h2, h3⟩ := List.append_inj' hpre rfl
   have hlast : k.1 = len - 1 - ini.length := by simpa using h3
   have hin : j ∈ (ini.map Fin.val) := by
    rw [h2]
    exact List.mem_map.2 ⟨len - 1 - j, List.mem_range.2 (by omega), by show len - 1 - (len - 1 - j) = j; omega⟩
   obtain ⟨q, hq, rfl⟩ := List.mem_map.1 hin
   exact e2 q hq
  ·refine e5.mono (fun _ h => h) (fun q hq => ?_)
   obtain ⟨_, arr, ty, p, hc2⟩ := e6 q hq
   exact World.putObj_heap_other (fun e => by subst e; rw [hK] at hc2; cases hc2)
  ·obtain ⟨h1, arr, ty, p, hc2⟩ := e6 q hq
   refine ⟨h1, ?_⟩
   have := (Array.getElem?_eq_some_iff.1 hc2).1
   simpa [World.putObj] using this
end Go.Proofs.Ytplkgghjldndkaa
namespace Go.Proofs.Ytplkgghjldndkaa
open Go Go.Ab Go.RowKit Go.Proofs Go.Shelf
theorem vers_cells {w : World} {F : Nat -> Prop} {l : List verT.den} {v : Value} (h : RepT w F (.sl verT) l (fun _ u => u = v)) :
  ∃ (A : Option Addr) (cap : Nat) (b off : Nat) (c : Nat -> VC), v = .slice A l.length cap /\ (0 < l.length -> A = some ⟨b, off, none⟩ /\ F b) /\
   (∀ k j u, k < l.length -> (arr9 (c k))[j]? = some u -> w.cell? ⟨b, off + (k * 9 + j), none⟩ = some u) /\ ∀ k x, l[k]? = some x -> (c k).p 0 = x.1 /\ RepV w F verT x (agg9 (c k)) := by
 obtain ⟨A, cap, h0, h1, h2, h3⟩ := h
 by_cases hp : 0 < l.length
 ·obtain ⟨ad, hA, hF, hc⟩ := h3 0 l[0] (List.getElem?_eq_getElem hp)
  have hsp : ad.spot = none := by
   have hc' : w.cell? (ad.add (0 * verT.size + 0)) = some (.int .i64 l[0].1) := hc.1.1
   have he : ad.add (0 * verT.size + 0) = ad := by simp [Addr.add]
   rw [he] at hc'
   unfold World.cell? at hc'
   split at hc'
   ·split at hc'
    ·cases hc'
    ·rename_i hsp
     cases hsp2 : ad.spot with
     | none => rfl
     | some _ => rw [hsp2] at hsp; exact absurd rfl hsp
   ·cases hc'
  obtain ⟨b, off, sp⟩ := ad
  simp only at hsp
  subst hsp
  have hall : ∀ k, ∃ d : VC, ∀ x, l[k]? = some x -> (∀ j u, (arr9 d)[j]? = some u -> w.cell? ⟨b, off + (k * 9 + j), none⟩ = some u) /\ d.p 0 = x.1 /\ RepV w F verT x (agg9 d) := by
   intro k
   cases hk : l[k]? with
   | none => exact ⟨⟨fun _ => 0, fun _ => none, fun _ => 0, fun _ => 0⟩, fun x hx => by cases hx⟩
   | some x =>
    obtain ⟨ad', hA', _, hr⟩ := h3 k x hk
    rw [hA] at hA'
    cases hA'
    obtain ⟨d, hd, hd0⟩ := ver_cells hr
    refine ⟨d, fun y hy => ?_⟩
    cases hy
    have hcell : ∀ j u, (arr9 d)[j]? = some u -> w.cell? ⟨b, off + (k * 9 + j), none⟩ = some u := fun j u hj => by
     have := hd j u hj
     rw [show verT.size = 9 from rfl] at this
     have e : (⟨b, off, none⟩ : Addr).add (k * 9 + j) = ⟨b, off + (k * 9 + j), none⟩ := by unfold Addr.add; split <;> simp_all
     rw [e] at this
     exact this
    refine ⟨hcell, hd0, rfl, ⟨fun _ => ⟨_, rfl⟩, fun _ => rfl⟩, ?_⟩
    refine hr.mono (fun _ h => h) (fun _ _ => rfl) fun j u hj hu => ?_
    have hj9 : j < (arr9 d).size := hj
    have h2 := hd j (arr9 d)[j] (Array.getElem?_eq_getElem hj9)
    have h3 : some u = some (arr9 d)[j] := hu.symm.trans h2
    show (arr9 d)[j]? = some u
    rw [Array.getElem?_eq_getElem hj9]
    exact h3.symm
  obtain ⟨c, hcc⟩ := Classical.axiomOfChoice hall
  refine ⟨A, cap, b, off, c, h0.symm, fun _ => ⟨hA, hF⟩, fun k j u hk hj => (hcc k l[k] (List.getElem?_eq_getElem hk)).1 j u hj, fun k x hx => (hcc k x hx).2⟩
 ·refine ⟨A, cap, 0, 0, fun _ => ⟨fun _ => 0, fun _ => none, fun _ => 0, fun _ => 0⟩, h0.symm, fun h => absurd h hp, fun k j u hk => absurd hk (by omega), fun k x hx => ?_⟩
  have := (List.getElem?_eq_some_iff.1 hx).1
  omega
theorem verAt_app (day : Int) (b : List verT.den) : (a : List verT.den) -> (∀ v ∈ a, ¬ v.1 <= day) -> verAt day (a ++ b) = verAt day b
 | [], _ => rfl
 | v :: a, h => by
  have hv : ¬ v.1 <= day := h v (by simp)
  have : verAt day (v :: a ++ b) = verAt day (a ++ b) := if_neg hv
  rw [this]
  exact verAt_app day b a fun x hx => h x (by simp [hx])
theorem verAt_no {day : Int} {l : List verT.den} (h : ∀ v ∈ l, ¬ v.1 <= day) : verAt day l.reverse = (noVer, 7) := by
 have := verAt_app day [] l.reverse fun v hv => h v (List.mem_reverse.1 hv)
 rw [List.append_nil] at this
 exact this
theorem verAt_yes {day : Int} {l : List verT.den} {k : Nat} {x : verT.den} (hk : l[k]? = some x) (hx : x.1 <= day) (h : ∀ j y, k < j -> l[j]? = some y -> ¬ y.1 <= day) : verAt day l.reverse = (x, 0) := by
 obtain ⟨hlt, rfl⟩ := List.getElem?_eq_some_iff.1 hk
 have hsplit : l = l.take k ++ l[k] :: l.drop (k + 1) := by
  rw [← List.drop_eq_getElem_cons hlt, List.take_append_drop]
 have hr : l.reverse = (l.drop (k + 1)).reverse ++ (l[k] :: (l.take k).reverse) := by
  conv => lhs; rw [hsplit]
  simp
 rw [hr, verAt_app]
 ·exact if_pos hx
 ·intro v hv
  obtain ⟨j, hj⟩ := List.getElem?_of_mem (List.mem_reverse.1 hv)
  rw [List.getElem?_drop] at hj
  exact h _ v (by omega) hj
def fewT (t : tarT.den) : Prop := t.1.length <= 1000000 /\ ∀ v ∈ t.1, verFew v
def cTarAt : Ct := ⟨[.d tarT, .d i64], [verT, i64], fun x => ((verAt x.2.1 x.1.1.reverse).1, (verAt x.2.1 x.1.1.reverse).2, ()), fun x => [fewT x.1]⟩
theorem noVer_rep (w : World) (F : Nat -> Prop) : RepV w F verT noVer (.agg zero9) := by
 have h0 : inR .i64 0 := ⟨by decide, by decide⟩
 refine ⟨rfl, ⟨fun _ => ⟨_, rfl⟩, fun _ => rfl⟩, ⟨rfl, h0⟩, ⟨⟨rfl, h0⟩, ⟨rfl, h0⟩, ⟨rfl, h0⟩, ⟨rfl, h0⟩, trivial⟩, ?_, ?_, ?_, ⟨rfl, h0⟩, trivial⟩
 all_goals exact ⟨none, 0, rfl, Nat.le_refl _, Nat.zero_le _, fun i x hx => by simp [noVer] at hx⟩
theorem rep_pair2 {w : World} {F : Nat -> Prop} {x : verT.den} {n : Int} {u : Value} (h : RepV w F verT x u) (hn : -9223372036854775808 <= n /\ n <= 9223372036854775807) : RepR w F [verT, i64] (x, n, ()) (.tuple #[u, .int .i64 n]) :=
 ⟨_, rfl, _, _, rfl, h, _, _, rfl, ⟨rfl, ⟨fun h => (by cases h), fun ⟨cs, h⟩ => (by cases h)⟩, rfl, hn⟩, rfl⟩
theorem tarAt_ok : SoundCt Try.prog 20 cTarAt := by
 refine ⟨enters (fn := Try.f20) (by kernel_rfl) rfl rfl, fun w F xs vs hbd hr hok => ?_⟩
 obtain ⟨⟨l, ut⟩, day, _⟩ := xs
 obtain ⟨va, vs', rfl, hva, vb, vs'', rfl, hvb, hn⟩ := hr
 cases hn
 have hva' : RepV w F tarT (l, ut) va := hva
 have hvb' : RepV w F i64 day vb := hvb
 have hb2 : vb = .int .i64 day := by
  have h : RepA Try.prog w F (fun _ _ => True) (encV i64 day) vb := encV_rep hvb'
  exact h.2.1
 subst hb2
 obtain ⟨cs, rfl⟩ := hva'.2.1.1 rfl
 have hs : cs.size = 1 := hva'.1
 obtain ⟨hsl, _⟩ : RepT w F (.sl verT) l (fun j u => cs[j]? = some u) /\ True := ⟨hva'.2.2.1, trivial⟩
 have hcs : cs = #[cs.getD 0 undef] := by
  apply Array.ext
  ·simp [hs]
  ·intro i h1 h2
   have : i = 0 := by omega
   subst this
   simp [Array.getD, hs]
 rw [hcs]
 have hsl' : RepT w F (.sl verT) l (fun _ u => u = cs.getD 0 undef) := by
  obtain ⟨A, c, h1, h2⟩ := hsl
  refine ⟨A, c, ?_, h2⟩
  simp [Array.getD, hs]
  rw [Array.getElem?_eq_getElem (by omega)] at h1
  exact (Option.some.inj h1).symm
 obtain ⟨A, cap, b, off, c, e1, hA, hc, hx⟩ := vers_cells hsl'
 rw [e1]
 obtain ⟨hfew1, hfew2⟩ : fewT (l, ut) := hok
 have key := at_in b off l.length cap day c (fun k => l.getD k verT.dflt) F w hfew1 A (fun h => ⟨(hA h).1, hbd b (hA h).2⟩) hbd hc (fun k W hk hW => by
  obtain ⟨_, h2⟩ := hx k l[k] (List.getElem?_eq_getElem hk)
  have e : l.getD k verT.dflt = l[k] := by rw [List.getD_eq_getElem?_getD, List.getElem?_eq_getElem hk]; rfl
  rw [e]
  exact own_calls hbd hW h2 (hfew2 _ (List.getElem_mem hk)))
 refine (callsIn_wide.1 key).mono ?_
 rintro e w' ⟨he, hbel⟩
 rcases he with ⟨rfl, hno⟩ | ⟨k, d, F', hk, hday, hafter, rfl, hrep, hF'⟩
 ·have hv : verAt day l.reverse = (noVer, 7) := verAt_no fun v hv => by
   obtain ⟨j, hj⟩ := List.getElem?_of_mem hv
   have := hno j (List.getElem?_eq_some_iff.1 hj).1
   dsimp only at this
   rw [(hx j v hj).1] at this
   exact this
  refine ⟨_, F, rfl, hbel, fun _ h => h, fun b hb => ⟨.inl hb, Nat.lt_of_lt_of_le (hbd b hb) hbel.size⟩, ?_⟩
  show RepR w' F [verT, i64] ((verAt day l.reverse).1, (verAt day l.reverse).2, ()) _
  rw [hv]
  exact rep_pair2 (noVer_rep _ _) (n := 7) (by decide)
 ·have hlk : l[k]? = some l[k] := List.getElem?_eq_getElem hk
  have hv : verAt day l.reverse = (l[k], 0) := verAt_yes hlk (by dsimp only at hday; rw [(hx k _ hlk).1] at hday; exact hday) fun j y hj hy => by
   have := hafter j hj (List.getElem?_eq_some_iff.1 hy).1
   dsimp only at this
   rw [(hx j y hy).1] at this
   exact this
  have e : l.getD k verT.dflt = l[k] := by rw [List.getD_eq_getElem?_getD, hlk]; rfl
  dsimp only at hrep
  rw [e] at hrep
  refine ⟨_, fun b => F b ∨ F' b, rfl, hbel, fun _ h => .inl h, fun b hb => ?_, ?_⟩
  ·rcases hb with h | h
   ·exact ⟨.inl h, Nat.lt_of_lt_of_le (hbd b h) hbel.size⟩
   ·exact hF' b h
  ·show RepR w' _ [verT, i64] ((verAt day l.reverse).1, (verAt day l.reverse).2, ()) _
   rw [hv]
   exact rep_pair2 (hrep.mono (fun _ h => .inr h) (fun _ _ => rfl)) (n := 0) (by decide)
attribute [local go_sem] Oper.semAt_some
theorem all1_run (Bn Ba Bo : Nat) (k : Int) (A : Option Addr) (len cap : Nat) (w : World) (hn : Boxed w Bn 3 (.int .i64 k)) (ha : Boxed w Ba 179 (.slice A len cap)) (ho : Boxed w Bo 4 (.bool false)) :
  CallsD Try.prog 124 #[.pointer (some ⟨Bn, 0, none⟩), .pointer (some ⟨Ba, 0, none⟩), .pointer (some ⟨Bo, 0, none⟩)] .returning w fun e u' w' =>
   u' = .returning /\ (∃ v, e = .returned v) /\ w' = w.setCell ⟨Bo, 0, none⟩ (.bool (decide (k = len))) := by
 have c1 := hn.cell
 have c2 := ha.cell
 have c3 := ho.cell
 have f3 := ho.frozen
 go_enter_d Try.func124, Try.ntmps124
 go_wp2
 go_end0
 exact ⟨⟨_, rfl⟩, by rw [Bool.beq_eq_decide_eq]⟩
structure AllI (w : World) (b off cap : Nat) (bs : Nat -> Bool) (k : Nat) (W : World) : Prop where
 x0 : Boxed W w.heap.size 179 (.slice (some ⟨b, off, none⟩) 4 cap)
 x1 : Boxed W (w.heap.size + 1) 4 (.bool false)
 x2 : Boxed W (w.heap.size + 2) 3 (.int .i64 k)
 bel : Below w.heap.size w W
 sz : w.heap.size + 3 <= W.heap.size
 yes : ∀ j, j < k -> bs j = true
structure FourFn (w : World) (b off : Nat) (g : Nat -> Nat) (caps : Nat -> Array Value) (bs : Nat -> Bool) : Prop where
 blk : b < w.heap.size
 cell : ∀ k, k < 4 -> w.cell? ⟨b, off + k, none⟩ = some (.func (.func (g k)) #[] (caps k))
 enter : ∀ k, k < 4 -> ∀ args w, (callFunc (g k) args).run Try.prog w = .ok (.enter (g k) args) w
 call : ∀ k, k < 4 -> ∀ W, Below w.heap.size w W -> Calls Try.prog (g k) (caps k) W fun e W' => e = .returned (.bool (bs k)) /\ Below W.heap.size W W'
theorem all_end {w W : World} {b off cap : Nat} {bs : Nat -> Bool} {k : Nat} {r : Bool} {a0 a4 a5 a7 a8 a9 a10 a11 a12 a13 a14 a15 a16 a17 a18 : Value} (hi : AllI w b off cap bs k W) (hr : decide ((k : Int) = (4 : Nat)) = r) :
    bodyPostD Try.prog Try.f103 (fun e w' => e = .returned (.bool r) /\ Below w.heap.size w w') .ret
      { tmps := #[a0, .pointer (some ⟨w.heap.size, 0, none⟩), .pointer (some ⟨w.heap.size + 1, 0, none⟩), .pointer (some ⟨w.heap.size + 1 + 1, 0, none⟩), a4, a5, .func (.func 124) #[] #[.pointer (some ⟨w.heap.size + 1 + 1, 0, none⟩), .pointer (some ⟨w.heap.size, 0, none⟩), .pointer (some ⟨w.heap.size + 1, 0, none⟩)], a7, a8, a9, a10, a11, a12, a13, a14, a15, a16, a17, a18],
        defers := [{ target := .fn (.func 124) #[.pointer (some ⟨w.heap.size + 1 + 1, 0, none⟩), .pointer (some ⟨w.heap.size, 0, none⟩), .pointer (some ⟨w.heap.size + 1, 0, none⟩)], args := #[] }] } W := by
  refine leaves_cons (f := 124) (args := #[.pointer (some ⟨w.heap.size + 2, 0, none⟩), .pointer (some ⟨w.heap.size, 0, none⟩), .pointer (some ⟨w.heap.size + 1, 0, none⟩)]) (by simp) (by simp [go_sem]) ?_
  refine (all1_run (w.heap.size + 2) w.heap.size (w.heap.size + 1) k _ 4 cap W hi.x2 hi.x0 hi.x1).mono ?_
  rintro e u' w'' ⟨rfl, ⟨v, rfl⟩, rfl⟩
  have c := (hi.x1.set (.bool (decide ((k : Int) = (4 : Nat))))).cell
  have hb := hi.bel.setCell (p := ⟨w.heap.size + 1, 0, none⟩) (by show w.heap.size <= w.heap.size + 1; omega) (.bool (decide ((k : Int) = (4 : Nat))))
  rw [hr] at c hb ⊢
  refine ⟨.bool r, ?_, rfl, hb⟩
  simp [results, Try.results103, go_sem, c]
set_option maxRecDepth 100000 in
set_option maxHeartbeats 1000000 in
theorem all_run (b off cap : Nat) (g : Nat -> Nat) (caps : Nat -> Array Value) (bs : Nat -> Bool) (w : World) (h : FourFn w b off g caps bs) :
    Calls Try.prog 103 #[.slice (some ⟨b, off, none⟩) 4 cap] w fun e w' => e = .returned (.bool (bs 0 && (bs 1 && (bs 2 && bs 3)))) /\ Below w.heap.size w w' := by
  have hmf : ∀ (fn : Fn) (first cap : Array Value) (w : World), (Instr.makeFunc fn first cap).run Try.prog w = .ok (.func fn first cap) w := fun _ _ _ _ => rfl
  go_enter_defers Try.func103, Try.ntmps103
  go_wp2
  have z0 := (Below.heap_alloc ((w.alloc (.cells #[.slice (some ⟨b, off, none⟩) 4 cap] 179)).alloc (.cells #[.bool false] 4)) (.cells #[.int .i64 0] 3) w.heap.size (by simp only [World.size_alloc]; omega)).trans ((Below.heap_alloc _ _ _ (by simp only [World.size_alloc]; omega)).trans (World.alloc_heap_new w (.cells #[.slice (some ⟨b, off, none⟩) 4 cap] 179)))
  have z1' := World.alloc_heap_new (w.alloc (.cells #[.slice (some ⟨b, off, none⟩) 4 cap] 179)) (.cells #[.bool false] 4)
  rw [World.size_alloc] at z1'
  have z1 := (Below.heap_alloc ((w.alloc (.cells #[.slice (some ⟨b, off, none⟩) 4 cap] 179)).alloc (.cells #[.bool false] 4)) (.cells #[.int .i64 0] 3) (w.heap.size + 1) (by simp only [World.size_alloc]; omega)).trans z1'
  have z2 : (((w.alloc (.cells #[.slice (some ⟨b, off, none⟩) 4 cap] 179)).alloc (.cells #[.bool false] 4)).alloc (.cells #[.int .i64 0] 3)).heap[w.heap.size + 2]? = some (.cells #[.int .i64 0] 3 (0, 0)) := by
    have := World.alloc_heap_new ((w.alloc (.cells #[.slice (some ⟨b, off, none⟩) 4 cap] 179)).alloc (.cells #[.bool false] 4)) (.cells #[.int .i64 0] 3)
    rwa [World.size_alloc, World.size_alloc] at this
  have hbel : Below w.heap.size w (((w.alloc (.cells #[.slice (some ⟨b, off, none⟩) 4 cap] 179)).alloc (.cells #[.bool false] 4)).alloc (.cells #[.int .i64 0] 3)) := (((Below.refl _ w).alloc (Nat.le_refl _) _).alloc (by simp) _).alloc (by simp; omega) _
  have hsz : (((w.alloc (.cells #[.slice (some ⟨b, off, none⟩) 4 cap] 179)).alloc (.cells #[.bool false] 4)).alloc (.cells #[.int .i64 0] 3)).heap.size = w.heap.size + 3 := by simp
  have hI0 : AllI w b off cap bs 0 (((w.alloc (.cells #[.slice (some ⟨b, off, none⟩) 4 cap] 179)).alloc (.cells #[.bool false] 4)).alloc (.cells #[.int .i64 0] 3)) := ⟨z0, z1, z2, hbel, by omega, fun j hj => by omega⟩
  go_loopw [9] (fun i wr => ∃ k : Nat, k <= 4 /\ i = .int .i64 k /\ AllI w b off cap bs k wr)
    (fun i _ => 4 - (intOf i).toNat)
  case atStart => exact ⟨0, by omega, rfl, hI0⟩
  case round =>
    obtain ⟨k, hk, rfl, hi⟩ := hrel
    by_cases hlt : k < 4
    · have hc : wr.cell? ⟨b, off + k, none⟩ = some (.func (.func (g k)) #[] (caps k)) := (hi.bel.cell (p := ⟨b, off + k, none⟩) h.blk).trans (h.cell k hlt)
      have he := h.enter k hlt
      have c2 := hi.x2.cell
      have f2 := hi.x2.frozen
      go_wp2
      refine (h.call k hlt wr hi.bel).mono ?_
      rintro e w1 ⟨rfl, hb1⟩
      have hs := hi.sz
      have y0 : Boxed w1 _ _ _ := (hb1.block _ (by omega)).trans hi.x0
      have y1 : Boxed w1 _ _ _ := (hb1.block (w.heap.size + 1) (by omega)).trans hi.x1
      have y2 : Boxed w1 _ _ _ := (hb1.block (w.heap.size + 2) (by omega)).trans hi.x2
      have hi1 : AllI w b off cap bs k w1 := ⟨y0, y1, y2, hi.bel.trans (hb1.mono hi.bel.size), Nat.le_trans hi.sz hb1.size, hi.yes⟩
      have d2 := y2.cell
      have e2 := y2.frozen
      clear hc he c2 f2
      cases hbk : bs k with
      | false =>
        go_wp2
        refine all_end hi1 ?_
        have h4 : ¬ ((k : Int) = (4 : Nat)) := by omega
        rw [decide_eq_false h4]
        have : k = 0 ∨ k = 1 ∨ k = 2 ∨ k = 3 := by omega
        rcases this with rfl | rfl | rfl | rfl <;> rw [hbk] <;> simp
      | true =>
        go_wp2
        go_roundw
        case rel => exact ⟨k + 1, by omega, by simp, y0.other (by omega) _, y1.other (by omega) _, y2.set _, hi1.bel.setCell (p := ⟨w.heap.size + 2, 0, none⟩) (by show w.heap.size <= w.heap.size + 2; omega) _, by simp; exact hi1.sz, fun j hj => by
          by_cases hjk : j = k
          · rw [hjk]; exact hbk
          · exact hi.yes j (by omega)⟩
        case measure => simp [intOf]; omega
    · obtain rfl : k = 4 := by omega
      go_wp2
      refine all_end hi ?_
      rw [hi.yes 0 (by omega), hi.yes 1 (by omega), hi.yes 2 (by omega), hi.yes 3 (by omega)]
      rfl
end Go.Proofs.Ytplkgghjldndkaa
namespace Go.Proofs.Ytplkgghjldndkaa
open Go Go.Ab Go.RowKit Go.Proofs Go.Shelf
attribute [local go_sem] Oper.semAt_some
noncomputable def CI23 : Cx := cx [(92, cRightS), (106, cManyS), (78, cRisk), (100, cCovers)] []
theorem CI23_ok : CxOK Try.prog CI23 := cx_ok mixed ⟨rightS_ok, manyS_ok, risk_ok, terms_Covers_ok, trivial⟩ trivial
def tq (k : Nat) (t : termsT.den) : Bool := match k with
 | 0 => (cRightS.f (t.1, ())).1
 | 1 => bif decide ((cManyS.f (t.1, ())).1 ≥ 1) then decide ((cManyS.f (t.1, ())).1 <= 1100) else false
 | 2 => (cRisk.f (t.2.1, ())).1
 | _ => (cCovers.f (t.2.2.1, ())).1
def cTq (k : Nat) : Ct := ⟨[.ptr termsT], [.bool], fun x => (tq k x.1, ()), fun _ => []⟩
theorem tq0_ok : SoundCt Try.prog 104 (cTq 0) :=
 convF (fn_sound CI23_ok (Λ := lam0) (fn := Try.f104) (fr := fun x => Fr.val (tq 0 x.1, ())) (ps := [.ptr termsT]) (rs := [.bool]) (termsT.dflt, ()) (by kernel_rfl) (fun c E _ => lam0_ok c 0) (fun x => by kernel_rfl)) _ _ (fun _ _ _ _ _ _ => ⟨trivial, rfl⟩)
theorem tq1_ok : SoundCt Try.prog 105 (cTq 1) :=
 convF (fn_sound CI23_ok (Λ := lam0) (fn := Try.f105) (fr := fun x => Fr.val (tq 1 x.1, ())) (ps := [.ptr termsT]) (rs := [.bool]) (termsT.dflt, ()) (by kernel_rfl) (fun c E _ => lam0_ok c 0) (fun x => by kernel_rfl)) _ _ (fun _ _ _ _ _ _ => ⟨trivial, rfl⟩)
theorem tq2_ok : SoundCt Try.prog 107 (cTq 2) :=
 convF (fn_sound CI23_ok (Λ := lam0) (fn := Try.f107) (fr := fun x => Fr.val (tq 2 x.1, ())) (ps := [.ptr termsT]) (rs := [.bool]) (termsT.dflt, ()) (by kernel_rfl) (fun c E _ => lam0_ok c 0) (fun x => by kernel_rfl)) _ _ (fun _ _ _ _ _ _ => ⟨trivial, rfl⟩)
theorem tq3_ok : SoundCt Try.prog 108 (cTq 3) :=
 convF (fn_sound CI23_ok (Λ := lam0) (fn := Try.f108) (fr := fun x => Fr.val (tq 3 x.1, ())) (ps := [.ptr termsT]) (rs := [.bool]) (termsT.dflt, ()) (by kernel_rfl) (fun c E _ => lam0_ok c 0) (fun x => by kernel_rfl)) _ _ (fun _ _ _ _ _ _ => ⟨trivial, rfl⟩)
def tqF : Nat -> Nat
 | 0 => 104
 | 1 => 105
 | 2 => 107
 | _ => 108
theorem tqF_ok : (k : Nat) -> k < 4 -> SoundCt Try.prog (tqF k) (cTq k)
 | 0, _ => tq0_ok
 | 1, _ => tq1_ok
 | 2, _ => tq2_ok
 | 3, _ => tq3_ok
 | n + 4, h => absurd h (by omega)
theorem tq_span {a b : Int} (hf : fullS (a, b, ()) = true) : rightS (a, b, ()) = true /\ decide (b - a ≥ 1) = true := by
 obtain ⟨h1, h2, h3⟩ := fullS_iff.1 hf
 refine ⟨?_, ?_⟩
 ·have h2' : a <= b := Int.le_of_lt h2
  simp only [rightS, Bool.and_eq_true, decide_eq_true_eq]
  exact ⟨h1, h2', h3⟩
 ·simp; omega
theorem terms_tq (t : termsT.den) : (tq 0 t && (tq 1 t && (tq 2 t && tq 3 t))) = termsB t := by
 obtain ⟨⟨a, b, _⟩, r, cs, _⟩ := t
 show (rightS (a, b, ()) && ((bif decide (manyS a b ≥ 1) then decide (manyS a b <= 1100) else false) && (riskB r.1 r.2.1 r.2.2.1 r.2.2.2.1 && coversL cs))) = (fullS (a, b, ()) && (decide (b - a <= 1100) && (riskB r.1 r.2.1 r.2.2.1 r.2.2.2.1 && coversL cs)))
 by_cases hf : fullS (a, b, ()) = true
 ·have hm : manyS a b = b - a := if_pos hf
  obtain ⟨hr, hge⟩ := tq_span hf
  rw [hm, hr, hf, hge]
  rfl
 ·have hm : manyS a b = 0 := if_neg hf
  have hf' : fullS (a, b, ()) = false := by simpa using hf
  rw [hm, hf']
  simp
set_option maxRecDepth 100000 in
set_option maxHeartbeats 1000000 in
theorem terms_run (c0 c1 c2 c3 c4 c5 c6 : Value) (R : Ending -> World -> Prop) (w : World)
  (hall : ∀ cap, Calls Try.prog 103 #[.slice (some ⟨w.heap.size + 1, 0, none⟩) 4 cap] ((w.alloc (.cells #[c0, c1, c2, c3, c4, c5, c6] 32)).alloc (.cells #[.func (.func (tqF 0)) #[] #[.pointer (some ⟨w.heap.size, 0, none⟩)], .func (.func (tqF 1)) #[] #[.pointer (some ⟨w.heap.size, 0, none⟩)], .func (.func (tqF 2)) #[] #[.pointer (some ⟨w.heap.size, 0, none⟩)], .func (.func (tqF 3)) #[] #[.pointer (some ⟨w.heap.size, 0, none⟩)]] 24)) R)
  (hR : ∀ e w', R e w' -> ∃ r, e = .returned (.bool r)) :
  Calls Try.prog 69 #[.agg #[c0, c1, c2, c3, c4, c5, c6]] w R := by
 have hmf : ∀ (fn : Fn) (first cap : Array Value) (w : World), (Instr.makeFunc fn first cap).run Try.prog w = .ok (.func fn first cap) w := fun _ _ _ _ => rfl
 go_enter Try.func69, Try.ntmps69
 go_wp2_with (go_at_call 103; refine (hall 4).mono ?_; rintro e w' hRe; obtain ⟨r, rfl⟩ := hR e w' hRe)
 exact hRe
theorem tRight_ok : SoundCt Try.prog 69 cTerms := by
 refine ⟨enters (fn := Try.f69) (by kernel_rfl) rfl rfl, fun w F xs vs hbd hr _ => ?_⟩
 obtain ⟨t, _⟩ := xs
 obtain ⟨va, vs', rfl, hva, hn⟩ := hr
 cases hn
 have hva' : RepV w F termsT t va := hva
 obtain ⟨cs, rfl⟩ := hva'.2.1.1 rfl
 have hs : cs.size = 7 := hva'.1
 obtain ⟨c0, c1, c2, c3, c4, c5, c6, rfl⟩ : ∃ c0 c1 c2 c3 c4 c5 c6, cs = #[c0, c1, c2, c3, c4, c5, c6] := by
  refine ⟨cs[0], cs[1], cs[2], cs[3], cs[4], cs[5], cs[6], ?_⟩
  apply Array.ext
  ·simp [hs]
  ·intro i h1 h2
   have : i < 7 := by omega
   match i, this with
   | 0, _ | 1, _ | 2, _ | 3, _ | 4, _ | 5, _ | 6, _ => rfl
 have hsz : ((w.alloc (.cells #[c0, c1, c2, c3, c4, c5, c6] 32)).alloc (.cells #[.func (.func (tqF 0)) #[] #[.pointer (some ⟨w.heap.size, 0, none⟩)], .func (.func (tqF 1)) #[] #[.pointer (some ⟨w.heap.size, 0, none⟩)], .func (.func (tqF 2)) #[] #[.pointer (some ⟨w.heap.size, 0, none⟩)], .func (.func (tqF 3)) #[] #[.pointer (some ⟨w.heap.size, 0, none⟩)]] 24)).heap.size = w.heap.size + 2 := by simp
 have z0 := (Below.heap_alloc (w.alloc (.cells #[c0, c1, c2, c3, c4, c5, c6] 32)) (.cells #[.func (.func (tqF 0)) #[] #[.pointer (some ⟨w.heap.size, 0, none⟩)], .func (.func (tqF 1)) #[] #[.pointer (some ⟨w.heap.size, 0, none⟩)], .func (.func (tqF 2)) #[] #[.pointer (some ⟨w.heap.size, 0, none⟩)], .func (.func (tqF 3)) #[] #[.pointer (some ⟨w.heap.size, 0, none⟩)]] 24) w.heap.size (by simp only [World.size_alloc]; omega)).trans (World.alloc_heap_new w (.cells #[c0, c1, c2, c3, c4, c5, c6] 32))
 have z1 := World.alloc_heap_new (w.alloc (.cells #[c0, c1, c2, c3, c4, c5, c6] 32)) (.cells #[.func (.func (tqF 0)) #[] #[.pointer (some ⟨w.heap.size, 0, none⟩)], .func (.func (tqF 1)) #[] #[.pointer (some ⟨w.heap.size, 0, none⟩)], .func (.func (tqF 2)) #[] #[.pointer (some ⟨w.heap.size, 0, none⟩)], .func (.func (tqF 3)) #[] #[.pointer (some ⟨w.heap.size, 0, none⟩)]] 24)
 have hbel : Below w.heap.size w ((w.alloc (.cells #[c0, c1, c2, c3, c4, c5, c6] 32)).alloc (.cells #[.func (.func (tqF 0)) #[] #[.pointer (some ⟨w.heap.size, 0, none⟩)], .func (.func (tqF 1)) #[] #[.pointer (some ⟨w.heap.size, 0, none⟩)], .func (.func (tqF 2)) #[] #[.pointer (some ⟨w.heap.size, 0, none⟩)], .func (.func (tqF 3)) #[] #[.pointer (some ⟨w.heap.size, 0, none⟩)]] 24)) := ((Below.refl _ w).alloc (Nat.le_refl _) _).alloc (by simp) _
 refine (terms_run c0 c1 c2 c3 c4 c5 c6 (fun e w' => e = .returned (.bool (termsB t)) /\ Below w.heap.size w w') w (fun cap => ?_) (fun e w' h => ⟨_, h.1⟩)).mono ?_
 ·rw [World.size_alloc] at z1
  generalize ((w.alloc (.cells #[c0, c1, c2, c3, c4, c5, c6] 32)).alloc (.cells #[.func (.func (tqF 0)) #[] #[.pointer (some ⟨w.heap.size, 0, none⟩)], .func (.func (tqF 1)) #[] #[.pointer (some ⟨w.heap.size, 0, none⟩)], .func (.func (tqF 2)) #[] #[.pointer (some ⟨w.heap.size, 0, none⟩)], .func (.func (tqF 3)) #[] #[.pointer (some ⟨w.heap.size, 0, none⟩)]] 24)) = W0 at *
  have hf : FourFn W0 (w.heap.size + 1) 0 tqF (fun _ => #[.pointer (some ⟨w.heap.size, 0, none⟩)]) (fun k => tq k t) := by
   refine ⟨by omega, fun k hk => ?_, fun k hk => (tqF_ok k hk).1, fun k hk W hW => ?_⟩
   ·rw [Nat.zero_add, cell_of_block z1 k]
    match k, hk with
    | 0, _ | 1, _ | 2, _ | 3, _ => rfl
   ·have hz : W.heap[w.heap.size]? = _ := (hW.block _ (by omega)).trans z0
    have hrep : RepT W (fun b => F b ∨ b = w.heap.size) termsT t (fun j u => W.cell? ((⟨w.heap.size, 0, none⟩ : Addr).add j) = some u) := by
     refine hva'.2.2.mono (fun _ h => .inl h) (fun b hb => (hW.block b (by have := hbd b hb; omega)).trans (hbel.block b (hbd b hb))) fun j u _ hu => ?_
     have e : (⟨w.heap.size, 0, none⟩ : Addr).add j = ⟨w.heap.size, j, none⟩ := by unfold Addr.add; split <;> simp_all
     rw [e, cell_of_block hz j]
     exact hu
    refine ((tqF_ok k hk).2 W (fun b => F b ∨ b = w.heap.size) (t, ()) [.pointer (some ⟨w.heap.size, 0, none⟩)] (fun b hb => ?_) ⟨_, [], rfl, ⟨⟨w.heap.size, 0, none⟩, rfl, .inr rfl, hrep⟩, rfl⟩ trivial).mono ?_
    ·have := hW.size
     rcases hb with h | h
     ·have := hbd b h; omega
     ·omega
    ·rintro e W' ⟨v, F', rfl, hb', _, _, hv⟩
     have hv' : RepA Try.prog W' F' (fun _ _ => True) (encV .bool (tq k t)) v := encV_rep hv
     exact ⟨by rw [show v = .bool (tq k t) from hv'.2], hb'⟩
  refine (all_run (w.heap.size + 1) 0 cap tqF _ (fun k => tq k t) W0 hf).mono ?_
  rintro e w' ⟨rfl, hb⟩
  rw [terms_tq]
  exact ⟨rfl, hbel.trans (hb.mono (by omega))⟩
 ·rintro e w' ⟨rfl, hb⟩
  exact ⟨_, F, rfl, hb, fun _ h => h, fun b h => ⟨.inl h, Nat.lt_of_lt_of_le (hbd b h) hb.size⟩, rfl, ⟨fun h => (by cases h), fun ⟨cs, h⟩ => (by cases h)⟩, rfl⟩
end Go.Proofs.Ytplkgghjldndkaa
namespace Go.Proofs.Ytplkgghjldndkaa
open Go Go.Ab Go.RowKit Go.Proofs
attribute [local go_sem] Oper.semAt_some
abbrev chkL : List (Int × Nat) := [(1, 98), (2, 99), (3, 101), (4, 102)]
def FnMap (w : World) (r : Nat) (es : List (Int × Nat)) : Prop := ∃ arr ck, w.heap[r]? = some (.map arr ck) /\ arr.toList.map (fun e => (e.key, e.val)) = es.map (fun x => (Value.int .i64 x.1, Value.func (.func x.2) #[] #[]))
theorem insert_new {P : Program} {w : World} {t kt et : TypeId} {r f : Nat} {es : List (Int × Nat)} {n : Int} (ht : P.underlying t = some (.map kt et)) (hk : P.underlying kt = some (.int .i64))
  (h : FnMap w r es) (hn : es.find? (fun x => x.1 == n) = none) :
  ∃ w', (Instr.mapUpdate t (.map (some r)) (.int .i64 n) (.func (.func f) #[] #[])).run P w = .ok () w' /\ FnMap w' r (es ++ [(n, f)]) /\ w'.heap.size = w.heap.size /\ (∀ b, b ≠ r -> w'.heap[b]? = w.heap[b]?) /\ w'.os = w.os /\ w'.tape = w.tape /\ w'.output = w.output := by
 obtain ⟨arr, ck, hr, he⟩ := h
 obtain ⟨j, hj⟩ := findNow_run (n := n) arr.toList es 0 he
 rw [hn] at hj
 have hck : (Instr.checkKey false 10000 kt (.int .i64 n)).run P w = .ok () w := checkKey_int hk false 9999 n
 have hob : (getObj r).run P w = .ok (.map arr ck) w := by simp [getObj, Sem.run, hr]
 have hlt : r < w.heap.size := (Array.getElem?_eq_some_iff.1 hr).1
 refine ⟨{ w with heap := w.heap.setIfInBounds r (.map (arr.push { key := .int .i64 n, val := .func (.func f) #[] #[], born := ck }) (ck + 1)) }, ?_, ?_, ?_, ?_, rfl, rfl, rfl⟩
 ·simp [Instr.mapUpdate, run_underlying ht, hob, hck, Instr.findKey, run_underlying hk, hj, Go.MapKept.run_setObj_map _ hr]
 ·refine ⟨_, _, by simp [hlt]; exact ⟨rfl, rfl⟩, ?_⟩
  simp [he]
 ·simp
 ·intro b hb
  simp [Array.getElem?_setIfInBounds, Ne.symm hb]
theorem under_ck : Try.prog.underlying 127 = some (.map 3 95) := by kernel_rfl
theorem under_i : Try.prog.underlying 3 = some (.int .i64) := by kernel_rfl
set_option maxRecDepth 100000 in
set_option maxHeartbeats 1000000 in
theorem checks_run (w : World) : Calls Try.prog 67 #[] w fun e w' => e = .returned (.map (some w.heap.size)) /\ FnMap w' w.heap.size chkL /\ Below w.heap.size w w' /\ w'.heap.size = w.heap.size + 1 := by
 have hmm := @run_makeMap Try.prog
 have s0 : FnMap (w.alloc (.map #[] 0)) w.heap.size [] := ⟨#[], 0, by show (w.heap.push _)[w.heap.size]? = _; exact Array.getElem?_push_size, rfl⟩
 go_enter Try.func67, Try.ntmps67
 obtain ⟨w1, r1, m1, z1, o1, a1, b1, c1⟩ := insert_new (n := 1) (f := 98) under_ck under_i s0 rfl
 obtain ⟨w2, r2, m2, z2, o2, a2, b2, c2⟩ := insert_new (n := 2) (f := 99) under_ck under_i m1 rfl
 obtain ⟨w3, r3, m3, z3, o3, a3, b3, c3⟩ := insert_new (n := 3) (f := 101) under_ck under_i m2 rfl
 obtain ⟨w4, r4, m4, z4, o4, a4, b4, c4⟩ := insert_new (n := 4) (f := 102) under_ck under_i m3 rfl
 go_wp2
 go_ret
 refine ⟨rfl, m4, ⟨?_, ?_, ?_, ?_, ?_⟩, ?_⟩
 ·rw [a4, a3, a2, a1]; rfl
 ·rw [b4, b3, b2, b1]; rfl
 ·rw [c4, c3, c2, c1]; rfl
 ·rw [z4, z3, z2, z1, World.alloc, Array.size_push]; omega
 ·intro b hb
  rw [o4 b (by omega), o3 b (by omega), o2 b (by omega), o1 b (by omega), World.alloc]
  rw [Array.getElem?_push_lt hb, Array.getElem?_eq_getElem hb]
 ·rw [z4, z3, z2, z1, World.alloc, Array.size_push]
def cChecks : Ct := ⟨[], [.fm chkL], fun _ => ((), ()), fun _ => []⟩
theorem checks_ok : SoundCt Try.prog 67 cChecks := by
 refine ⟨enters (fn := Try.f67) (by kernel_rfl) rfl rfl, fun w F xs vs hb hr _ => ?_⟩
 have hv : vs = [] := hr
 subst hv
 refine (checks_run w).mono ?_
 rintro e w' ⟨rfl, ⟨arr, ck, hr, he⟩, hbel, hsz⟩
 refine ⟨_, fun b => F b ∨ b = w.heap.size, rfl, hbel, fun b h => .inl h, fun b h => ⟨h.elim .inl (fun h => .inr (by omega)), h.elim (fun h => by have := hb b h; omega) (fun h => by omega)⟩, ?_⟩
 refine ⟨rfl, ⟨fun h => (by cases h), fun ⟨cs, h⟩ => (by cases h)⟩, w.heap.size, arr, ck, rfl, .inr rfl, hr, he⟩
end Go.Proofs.Ytplkgghjldndkaa
