/- name.Right and name.Parent, as the printed contracts take them (for a program without name.Labels). -/
import Derived.Test.YtekbecpcbfhdmaaNameParent
namespace Go.Proofs.Ytekbecpcbfhdmaa.Given
open Go.RowKit Go.Proofs.YtekbecpcbfhdmaaW.PrintWords Go.Proofs.Ytekbecpcbfhdmaa.Name
def name_Right.f (a0 : ByteArray) : Option Bool := some (rightB a0)
theorem name_Right.calls (a0 : ByteArray) (r : Bool) (w : World) (h : name_Right.f a0 = some r) :
    Calls Try.prog 19 #[.string a0] w fun e w' => e = .returned (.bool r) ∧ Below w.heap.size w w' := by
  obtain rfl := Option.some.inj h
  exact right_any a0 w
def name_Parent.f (a0 : ByteArray) : Option (ByteArray × Bool) := some (parentR a0)
theorem name_Parent.calls (a0 : ByteArray) (r1 : ByteArray) (r2 : Bool) (w : World) (h : name_Parent.f a0 = some (r1, r2)) :
    Calls Try.prog 21 #[.string a0] w fun e w' => e = .returned (.tuple #[.string r1, .bool r2]) ∧ Below w.heap.size w w' := by
  have e := Option.some.inj h
  have := parent_any a0 w
  rw [e] at this
  exact this
end Go.Proofs.Ytekbecpcbfhdmaa.Given
