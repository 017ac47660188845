/- The call of scarfref21.known answers true, whatever the world. -/
import Derived.Test.YtoaeejeimcahhaaGreatDoorAmc
import Derived.Test.YtoaeejeimcahhaaGreatDoorChecked
section
namespace Go.Proofs.YtoaeejeimcahhaaGreatDoor
open Go.AM Go.RowKit
theorem known_am : okCall Tryz.prog 3000 9 1000 = true := by kernel_rfl
theorem known_calls (w : World) : Calls Tryz.prog 9 #[] w fun e w' => e = .returned (.bool true) ∧ Below w.heap.size w w' :=
  closed_true Tryz.checked.mixed Tryz.func9 rfl (by kernel_rfl) known_am w
end Go.Proofs.YtoaeejeimcahhaaGreatDoor
end
