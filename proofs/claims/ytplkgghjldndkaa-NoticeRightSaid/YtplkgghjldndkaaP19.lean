/-
  NoticeRight: the law's contract.
-/
import Derived.Test.YtplkgghjldndkaaMf
namespace Go.Proofs.Ytplkgghjldndkaa
open Go Go.Ab Go.RowKit Go.Proofs

noncomputable def CLn : Cx := cx [(10, cYes17), (11, cClaim), (12, cClaim)] []
theorem CLn_ok : CxOK Try.prog CLn := cx_ok (ps := []) mixed ⟨alive17_ok, nRight_ok, rRight_ok, trivial⟩ trivial
def frNRt (x : denP [.d claimT]) : Fr (denL [.bool]) := Fr.val (bif true then (cClaim.f (x.1, ())).1 == (cClaim.f (x.1, ())).1 else false, ())
theorem nRt_run : SoundCt Try.prog 3 ⟨[.d claimT], [.bool], fun xs => (frNRt xs).get, fun xs => [(frNRt xs).ok]⟩ :=
  fn_sound CLn_ok (Λ := lam0) (fn := Try.f3) (fr := frNRt) (ps := [.d claimT]) (rs := [.bool]) (claimT.dflt, ()) (by kernel_rfl) (fun c E _ => lam0_ok c 0) (fun x => by kernel_rfl)
theorem lawNRight_ok : SoundCt Try.prog 3 (cLaw17 [.d claimT]) :=
  convF nRt_run _ _ (fun _ _ x _ _ _ => by
    refine ⟨trivial, ?_⟩
    show (bif true then (cClaim.f (x.1, ())).1 == (cClaim.f (x.1, ())).1 else false, ()) = (true, ())
    rw [beq_self_eq_true]
    rfl)

end Go.Proofs.Ytplkgghjldndkaa
