/- The closed facts of the row of KeeperOneForm, each as a lemma of its own (together they pass the lid on memory). -/
import Derived.Test.YtegdpagjloidnaaGreatDoorCards
import Derived.WalkKit
import Derived.ProofKit
import Derived.Deep.DeepHandedRow
namespace Go.Proofs.YtegdpagjloidnaaGreatDoor.oneForm
open Go.ChangeShapes Go.WideShapes Go.ChangeAt Go.RowKit

set_option maxRecDepth 100000 in
theorem facts : joinedFacts Tryz.pinned.checked.prog 5 Tryz.f5 (OpenSpec.ofChange Rows.keeperOneFormSpec).bare Rows.keeperOneFormRow = true := by
  simp only [joinedFacts, Bool.and_eq_true]
  repeat' apply And.intro
  all_goals (as_aux_lemma => kernel_rfl)
end Go.Proofs.YtegdpagjloidnaaGreatDoor.oneForm
