/-
  What the program's variables hold, as far as the laws read them.
-/
import Derived.Test.YtldofkogmkfpjaaGreatDoorWSyB
import Derived.Shelf.Lay
import Derived.Test.YtldofkogmkfpjaaGreatDoorProg
import Derived.Shelf.Strconv.Itoa3
namespace Go.Proofs.YtldofkogmkfpjaaGreatDoor
open Go Go.Ev Go.Sy
noncomputable def glob : Nat → Option (List Ec)
  | 3 => some [.err]
  | 4 => some [.err]
  | _ => none
noncomputable def fixv : Nat → Option (Array Value)
  | 2 => some (Lib.pow10Tab.map fun z => Value.int .u64 z).toArray
  | _ => none
noncomputable def cfg : Cfg := ⟨Tryz.prog, fun g => (glob g).map denE, Eq, fun _ => rfl, fun _ _ _ => Eq.trans, fixv⟩
theorem mixed : cfg.P.follows .mixedOrders = true := by kernel_rfl
theorem gd {Γ : Env} (h : EnvOk cfg Γ) : Gd cfg ⟨Tryz.prog, glob, Γ⟩ := ⟨rfl, fun _ => rfl, h⟩
end Go.Proofs.YtldofkogmkfpjaaGreatDoor
