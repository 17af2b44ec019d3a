/- Texts of this claim, joined. -/
import Derived.Test.YtfgoedndpcblpaaGreatDoorCards
import Derived.Test.YtfgoedndpcblpaaGreatDoorTie
import Derived.WalkKit
import Derived.ProofKit
import Derived.OpenShut
import Derived.ShutString
import Derived.ChangeOld
import Derived.Below
import Derived.SizedLaws
section
namespace Go.Proofs.YtfgoedndpcblpaaGreatDoor.inlineLongUpto
open Go Go.ChangeShapes Go.WideShapes Go.ChangeAt Go.RowKit
set_option linter.unusedVariables false
theorem k0 : (Rows.inlineLongUptoRow.wf (OpenSpec.ofChange (Rows.OpenSpec.upto Rows.inlineLongSpec).bare)) = true := by kernel_rfl
theorem k1 : (laidOutB Tryz.prog) = true := by kernel_rfl
theorem k2 : (mapsRowed Tryz.prog) = true := by kernel_rfl
theorem k3 : (Tryz.f11.params.all (Tryz.prog.readableRec ·)) = true := by kernel_rfl
theorem k4 : (namedTie Tryz.prog Rows.inlineLongUptoRow.named (Rows.OpenSpec.upto Rows.inlineLongSpec).bare.vars) = true := by kernel_rfl
theorem k5 : ((Rows.inlineLongUptoRow.stops == [])) = true := by kernel_rfl
theorem k6 : ((Tryz.prog.stops == [])) = true := by kernel_rfl
theorem k7 : ((Rows.inlineLongUptoRow.knobs == [])) = true := by kernel_rfl
theorem k8 : ((Tryz.prog.stopKnobs == [])) = true := by kernel_rfl
theorem k9 : ((Rows.inlineLongUptoRow.inPlace == Tryz.prog.inPlace 11)) = true := by kernel_rfl
theorem k10 : ((Rows.inlineLongUptoRow.unfollowed == Tryz.prog.unfollowed 11)) = true := by kernel_rfl
theorem k11 : ((Rows.inlineLongUptoRow.recurses == Tryz.prog.recurses 11)) = true := by kernel_rfl
theorem k12 : ((Rows.inlineLongUptoRow.named == Tryz.prog.varsNamed 11)) = true := by kernel_rfl
theorem k13 : ((Rows.inlineLongUptoRow.maps == (Tryz.f11.params.toList ++ (Rows.OpenSpec.upto Rows.inlineLongSpec).bare.plain.varTypes Tryz.prog).any (Tryz.prog.mapsRec ·))) = true := by kernel_rfl
theorem k14 : ((Rows.inlineLongUptoRow.ifaces == (Tryz.f11.params.toList ++ (Rows.OpenSpec.upto Rows.inlineLongSpec).bare.plain.varTypes Tryz.prog).any (Tryz.prog.ifacesRec ·))) = true := by kernel_rfl
theorem k15 : ((Rows.inlineLongUptoRow.mapsOut == Tryz.prog.mapsAmong Tryz.f11.resultTypes.toList)) = true := by kernel_rfl
theorem k16 : ((Rows.inlineLongUptoRow.loops == (Tryz.f11.params.toList ++ (Rows.OpenSpec.upto Rows.inlineLongSpec).bare.plain.varTypes Tryz.prog).any (Tryz.prog.loopsFrom ·))) = true := by kernel_rfl
theorem k17 : ((Rows.inlineLongUptoRow.wideKeys == (Tryz.f11.params.toList ++ (Rows.OpenSpec.upto Rows.inlineLongSpec).bare.plain.varTypes Tryz.prog ++ Tryz.f11.resultTypes.toList).any (Tryz.prog.wideKeysFrom ·))) = true := by kernel_rfl
theorem k18 : ((Rows.OpenSpec.upto Rows.inlineLongSpec).bare.vars.all (Tryz.prog.varReadable ·)) = true := by kernel_rfl
theorem k19 : (Tryz.f11.resultTypes.all (fun t => Tryz.prog.readableRec t && decide (t < Tryz.prog.types.size))) = true := by kernel_rfl
theorem k20 : ((Rows.inlineLongUptoRow.ifacesOut == Tryz.f11.resultTypes.toList.any (Tryz.prog.ifacesRec ·))) = true := by kernel_rfl
theorem k21 : ((Rows.inlineLongUptoRow.loopsOut == Tryz.f11.resultTypes.toList.any (Tryz.prog.loopsFrom ·))) = true := by kernel_rfl
theorem k22 : ((Rows.inlineLongUptoRow.plainKeys == Tryz.prog.plainKeys)) = true := by kernel_rfl
theorem k23 : (Rows.inlineLongUptoRow.shortTexts.isNone) = true := by kernel_rfl
theorem k24 : (Tryz.prog.stopsHeard) = true := by kernel_rfl
theorem k25 : (Tryz.prog.mayEnter) = true := by kernel_rfl
theorem k26 : ((Rows.inlineLongUptoRow.lifted == Tryz.prog.liftsFinal)) = true := by kernel_rfl
theorem k27 : ((Tryz.prog.make == some Rows.inlineLongUptoRow.make)) = true := by kernel_rfl
theorem k29 : ((Rows.inlineLongUptoRow.pinned == Rows.inlineLongUptoRow.pinnedBy)) = true := by kernel_rfl
theorem k30 : ((Rows.inlineLongUptoRow.veiled == (Tryz.f11.params.toList ++ (Rows.OpenSpec.upto Rows.inlineLongSpec).bare.plain.varTypes Tryz.prog ++ Tryz.f11.resultTypes.toList).any (Tryz.prog.veiledRec ·))) = true := by kernel_rfl
theorem k31 : (Rows.inlineLongUptoRow.veiledFits Tryz.prog Tryz.f11.params.toList (Tryz.f11.params.toList ++ (Rows.OpenSpec.upto Rows.inlineLongSpec).bare.plain.varTypes Tryz.prog ++ Tryz.f11.resultTypes.toList)) = true := by kernel_rfl
theorem closed : joinedFacts Tryz.prog 11 Tryz.f11 (Rows.OpenSpec.upto Rows.inlineLongSpec).bare Rows.inlineLongUptoRow = true := by
  unfold joinedFacts
  refine Bool.and_eq_true_iff.2 ⟨?_, k31⟩
  refine Bool.and_eq_true_iff.2 ⟨?_, k30⟩
  refine Bool.and_eq_true_iff.2 ⟨?_, k29⟩
  refine Bool.and_eq_true_iff.2 ⟨?_, by kernel_rfl⟩
  refine Bool.and_eq_true_iff.2 ⟨?_, k27⟩
  refine Bool.and_eq_true_iff.2 ⟨?_, k26⟩
  refine Bool.and_eq_true_iff.2 ⟨?_, k25⟩
  refine Bool.and_eq_true_iff.2 ⟨?_, k24⟩
  refine Bool.and_eq_true_iff.2 ⟨?_, k23⟩
  refine Bool.and_eq_true_iff.2 ⟨?_, k22⟩
  refine Bool.and_eq_true_iff.2 ⟨?_, k21⟩
  refine Bool.and_eq_true_iff.2 ⟨?_, k20⟩
  refine Bool.and_eq_true_iff.2 ⟨?_, k19⟩
  refine Bool.and_eq_true_iff.2 ⟨?_, k18⟩
  refine Bool.and_eq_true_iff.2 ⟨?_, k17⟩
  refine Bool.and_eq_true_iff.2 ⟨?_, k16⟩
  refine Bool.and_eq_true_iff.2 ⟨?_, k15⟩
  refine Bool.and_eq_true_iff.2 ⟨?_, k14⟩
  refine Bool.and_eq_true_iff.2 ⟨?_, k13⟩
  refine Bool.and_eq_true_iff.2 ⟨?_, k12⟩
  refine Bool.and_eq_true_iff.2 ⟨?_, k11⟩
  refine Bool.and_eq_true_iff.2 ⟨?_, k10⟩
  refine Bool.and_eq_true_iff.2 ⟨?_, k9⟩
  refine Bool.and_eq_true_iff.2 ⟨?_, k8⟩
  refine Bool.and_eq_true_iff.2 ⟨?_, k7⟩
  refine Bool.and_eq_true_iff.2 ⟨?_, k6⟩
  refine Bool.and_eq_true_iff.2 ⟨?_, k5⟩
  refine Bool.and_eq_true_iff.2 ⟨?_, k4⟩
  refine Bool.and_eq_true_iff.2 ⟨?_, k3⟩
  refine Bool.and_eq_true_iff.2 ⟨?_, k2⟩
  refine Bool.and_eq_true_iff.2 ⟨?_, k1⟩
  exact k0
theorem fnamed : Tryz.pinned.checked.prog.funcNamed Rows.inlineLongUptoRow.func = some 11 := by kernel_rfl
theorem inst : Tryz.f11.isInstance Tryz.prog Rows.inlineLongUptoRow.origin Rows.inlineLongUptoRow.targs := of_decide_eq_true (by kernel_rfl)
theorem wrap : Tryz.f11.isWrapper Tryz.prog Rows.inlineLongUptoRow.wrapper Rows.inlineLongUptoRow.mainSum := by unfold Func.isWrapper; first | (rw [if_pos (by decide +kernel)]; kernel_rfl) | (rw [if_neg (by decide +kernel)]; exact ⟨rfl, rfl⟩)
end Go.Proofs.YtfgoedndpcblpaaGreatDoor.inlineLongUpto
end
