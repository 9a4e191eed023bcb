import Derived.KernelRfl
import Derived.Test.YtigbhlkafmpgmaaSh
namespace Go.Proofs.Ytigbhlkafmpgmaa.V
open Go.RowKit Go.Proofs.Ytigbhlkafmpgmaa
section
variable {H : Type} {enc : TypeId × Value → H} {base : Nat} (W : World)
theorem comm_walk (v0 v1 v2 : Value) (a0 : Arg enc Try.prog W base 22 v0) (a1 : Arg enc Try.prog W base 25 v1) (a2 : Arg enc Try.prog W base 25 v2) : Calls Try.prog 5 #[v0, v1, v2] W fun e w' => e = .returned (.bool true) ∧ Below W.heap.size W w' :=
  law_of (ps := [pUs, pT, pT]) (ts := [22, 25, 25]) (vs := [v0, v1, v2]) mixed Tbl_ok L6_ok Try.func5 rfl (by kernel_rfl) ⟨a0, a1, a2, trivial⟩ comm_law
theorem sums_walk (v0 v1 : Value) (a0 : Arg enc Try.prog W base 30 v0) (a1 : Arg enc Try.prog W base 5 v1) : Calls Try.prog 6 #[v0, v1] W fun e w' => e = .returned (.bool true) ∧ Below W.heap.size W w' :=
  law_of (ps := [pTs, (false, .int .u8)]) (ts := [30, 5]) (vs := [v0, v1]) mixed Tbl_ok L7_ok Try.func6 rfl (by kernel_rfl) ⟨a0, a1, trivial⟩ sums_law
theorem all_walk (v0 v1 v2 : Value) (a0 : Arg enc Try.prog W base 22 v0) (a1 : Arg enc Try.prog W base 30 v1) (a2 : Arg enc Try.prog W base 48 v2) : Calls Try.prog 7 #[v0, v1, v2] W fun e w' => e = .returned (.bool true) ∧ Below W.heap.size W w' :=
  law_of (ps := [pUs, pTs, pIs]) (ts := [22, 30, 48]) (vs := [v0, v1, v2]) mixed Tbl_ok L6_ok Try.func7 rfl (by kernel_rfl) ⟨a0, a1, a2, trivial⟩ all_law
end
end Go.Proofs.Ytigbhlkafmpgmaa.V
