/-
  accrue: an error is told.
-/
import Derived.Test.YtbfcnjddddjbbaaD6
import Derived.Test.YtbfcnjddddjbbaaAbD
import Derived.Tactics2
import Derived.Laws.Pointers
namespace Go.Proofs.Ytbfcnjddddjbbaa
open Go Go.Ab Go.RowKit Go.Proofs

theorem setRow_one {w : World} {b : Nat} {ty : TypeId} {old v : Value} (h : w.heap[b]? = some (.cells #[old] ty (0, 0))) : w.setCell ⟨b, 0, none⟩ v = w.setRow b #[v] := by
  unfold World.setCell World.setRow
  congr 1
  apply Array.ext_getElem?
  intro i
  simp only [Array.getElem?_modify]
  by_cases hi : b = i
  · subst hi
    rw [h]
    simp
  · simp [hi]

theorem told_ok : TolOK Try.prog 17 24 .i64 := by
  refine ⟨enters (fn := Try.f17) (by kernel_rfl) rfl rfl, fun p w => ?_, fun b ty old n w hb => ?_⟩
  · refine callsD_of_wpS Try.func17 rfl fun c₀ cs hu => ?_
    simp only [Try.ntmps17, List.size_toArray, List.length_cons, List.length_nil, Nat.reduceAdd, Nat.reduceSub, Array.replicate_succ, Array.replicate_zero, List.push_toArray, List.append_toArray, List.nil_append, List.cons_append]
    apply wpS_seq
    apply wpS_region
    simp [wpOpsS, go_sem, recoverD, hu, Exit.thenS]
    refine wpS_of_wp ?_
    go_wp2
    cases c₀
    simp_all [bodyPostS, results, Try.results17]
  · have hc : w.cell? ⟨b, 0, none⟩ = some old := cell_of_block hb 0
    have hz : w.frozen? ⟨b, 0, none⟩ = false := by simp [World.frozen?, hb]
    have hta : ∀ w, (Instr.typeAssert (.iface 24 (.int .i64 n)) 20 24 true).run Try.prog w = .ok (.tuple #[.int .i64 n, .bool true]) w := fun _ => by kernel_rfl
    refine callsD_of_wpS Try.func17 rfl fun c₀ cs hu => ?_
    simp only [Try.ntmps17, List.size_toArray, List.length_cons, List.length_nil, Nat.reduceAdd, Nat.reduceSub, Array.replicate_succ, Array.replicate_zero, List.push_toArray, List.append_toArray, List.nil_append, List.cons_append]
    apply wpS_seq
    apply wpS_region
    simp [wpOpsS, go_sem, recoverD, hu, Exit.thenS]
    refine wpS_of_wp ?_
    go_wp2
    simp [bodyPostS, results, Try.results17, setRow_one hb]

end Go.Proofs.Ytbfcnjddddjbbaa
