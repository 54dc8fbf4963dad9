/-
  What the program's variables hold, as far as the laws read them.
-/
import Derived.Test.YtldofkogmkfpjaaGreatDoorWSyB
import Derived.Shelf.Lay
import Derived.Test.YtldofkogmkfpjaaGreatDoorProg
import Derived.Shelf.Strconv.Itoa3
namespace Go.Proofs.YtldofkogmkfpjaaGreatDoor
open Go Go.Ev Go.Sy
noncomputable def glob : Nat → Option (List Ec)
  | 8 => some [.arr .u8 64 [0,1,56,2,57,49,28,3,61,58,42,50,38,29,17,4,62,47,59,36,45,43,51,22,53,39,33,30,24,18,12,5,63,55,48,27,60,41,37,16,46,35,44,21,52,32,23,11,54,26,40,15,34,20,31,10,25,14,19,9,13,8,7,6]]
  | _ => none
noncomputable def fixv : Nat → Option (Array Value)
  | 2 => some (Lib.pow10Tab.map fun z => Value.int .u64 z).toArray
  | _ => none
noncomputable def cfg : Cfg := ⟨Tryz.prog, fun g => (glob g).map denE, Eq, fun _ => rfl, fun _ _ _ => Eq.trans, fixv⟩
theorem mixed : cfg.P.follows .mixedOrders = true := by kernel_rfl
theorem gd {Γ : Env} (h : EnvOk cfg Γ) : Gd cfg ⟨Tryz.prog, glob, Γ⟩ := ⟨rfl, fun _ => rfl, h⟩
end Go.Proofs.YtldofkogmkfpjaaGreatDoor
