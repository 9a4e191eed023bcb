/-
  A symbolic run of a function's text: the package-level variables that are laid.
-/
import Derived.Test.YtnbbooilapelmaaGreatDoorKitC
namespace Go.Proofs.YtnbbooilapelmaaGreatDoor.V
open Go.RowKit Go.Proofs.YtnbbooilapelmaaGreatDoor
def Gr : Nat → Option (Nat × IntKind × List Int) := fun g => match g with
  | 0 => some (20, .u64, [1, 10, 100, 1000, 10000, 100000, 1000000, 10000000, 100000000, 1000000000, 10000000000, 100000000000, 1000000000000, 10000000000000, 100000000000000, 1000000000000000, 10000000000000000, 100000000000000000, 1000000000000000000, 10000000000000000000])
  | _ => none
/-- Are there strings that are ranged over? (KitVo, KitVA, KitVB build only without.) -/
def Its : Bool := true
def Gl : List (Nat × (Array Value → TypeId → Prop)) := [(4, fun cs _ => ∃ tp p, cs = #[.iface tp p]), (5, fun cs _ => ∃ tp p, cs = #[.iface tp p])]
end Go.Proofs.YtnbbooilapelmaaGreatDoor.V
