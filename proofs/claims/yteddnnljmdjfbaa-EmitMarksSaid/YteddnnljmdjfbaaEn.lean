import Derived.KernelRfl
import Derived.Test.YteddnnljmdjfbaaEm
namespace Go.Proofs.Yteddnnljmdjfbaa.V
open Go.RowKit Go.Proofs.Yteddnnljmdjfbaa
section
variable {H : Type} {enc : TypeId × Value → H} {base : Nat} (W : World)
theorem plays_walk (v0 : Value) (a0 : Arg enc Try.prog W base 22 v0) : Calls Try.prog 3 #[v0] W fun e w' => e = .returned (.bool true) ∧ Below W.heap.size W w' :=
  law_of (ps := [pSts]) (ts := [22]) (vs := [v0]) mixed Tbl_ok M5_ok Try.func3 rfl (by kernel_rfl) ⟨a0, trivial⟩ plays_law
theorem plain_walk (v0 v1 : Value) (a0 : Arg enc Try.prog W base 26 v0) (a1 : Arg enc Try.prog W base 5 v1) : Calls Try.prog 4 #[v0, v1] W fun e w' => e = .returned (.bool true) ∧ Below W.heap.size W w' :=
  law_of (ps := [pNs, pU8]) (ts := [26, 5]) (vs := [v0, v1]) mixed Tbl_ok M5_ok Try.func4 rfl (by kernel_rfl) ⟨a0, a1, trivial⟩ plain_law
theorem none_walk (v0 : Value) (a0 : Arg enc Try.prog W base 38 v0) : Calls Try.prog 5 #[v0] W fun e w' => e = .returned (.bool true) ∧ Below W.heap.size W w' :=
  law_of (ps := [pSt]) (ts := [38]) (vs := [v0]) mixed Tbl_ok M5_ok Try.func5 rfl (by kernel_rfl) ⟨a0, trivial⟩ none_law
theorem marks_walk (v0 v1 v2 : Value) (a0 : Arg enc Try.prog W base 5 v0) (a1 : Arg enc Try.prog W base 5 v1) (a2 : Arg enc Try.prog W base 4 v2) : Calls Try.prog 6 #[v0, v1, v2] W fun e w' => e = .returned (.bool true) ∧ Below W.heap.size W w' :=
  law_of (ps := [pU8, pU8, pB]) (ts := [5, 5, 4]) (vs := [v0, v1, v2]) mixed Tbl_ok M5_ok Try.func6 rfl (by kernel_rfl) ⟨a0, a1, a2, trivial⟩ marks_law
end
end Go.Proofs.Yteddnnljmdjfbaa.V
