import Derived.Test.YtgaiedcmohpiaaaNl
namespace Go.Proofs.Ytgaiedcmohpiaaa.V
open Go.RowKit Go.Proofs.Ytgaiedcmohpiaaa
theorem none_walk {H : Type} {enc : TypeId × Value → H} {base : Nat} (W : World) (v0 v1 : Value) (a0 : Arg enc Try.prog W base 47 v0) (a1 : Arg enc Try.prog W base 3 v1) : Calls Try.prog 7 #[v0, v1] W fun e w' => e = .returned (.bool true) ∧ Below W.heap.size W w' :=
  law_of (ps := [pSt, pI]) (ts := [47, 3]) (vs := [v0, v1]) mixed Tbl_ok L12_ok Try.func7 rfl (by kernel_rfl) ⟨a0, a1, trivial⟩ none_law
theorem room_walk {H : Type} {enc : TypeId × Value → H} {base : Nat} (W : World) (v0 v1 : Value) (a0 : Arg enc Try.prog W base 5 v0) (a1 : Arg enc Try.prog W base 5 v1) : Calls Try.prog 4 #[v0, v1] W fun e w' => e = .returned (.bool true) ∧ Below W.heap.size W w' :=
  law_of (ps := [pU, pU]) (ts := [5, 5]) (vs := [v0, v1]) mixed Tbl_ok L12_ok Try.func4 rfl (by kernel_rfl) ⟨a0, a1, trivial⟩ room_law
theorem order_walk {H : Type} {enc : TypeId × Value → H} {base : Nat} (W : World) (v0 v1 : Value) (a0 : Arg enc Try.prog W base 22 v0) (a1 : Arg enc Try.prog W base 22 v1) : Calls Try.prog 3 #[v0, v1] W fun e w' => e = .returned (.bool true) ∧ Below W.heap.size W w' :=
  law_of (ps := [pUs, pUs]) (ts := [22, 22]) (vs := [v0, v1]) mixed Tbl_ok L12_ok Try.func3 rfl (by kernel_rfl) ⟨a0, a1, trivial⟩ order_law
theorem drains_walk {H : Type} {enc : TypeId × Value → H} {base : Nat} (W : World) (v0 v1 : Value) (a0 : Arg enc Try.prog W base 44 v0) (a1 : Arg enc Try.prog W base 22 v1) : Calls Try.prog 5 #[v0, v1] W fun e w' => e = .returned (.bool true) ∧ Below W.heap.size W w' :=
  law_of (ps := [pSts, pUs]) (ts := [44, 22]) (vs := [v0, v1]) mixed Tbl_ok L12_ok Try.func5 rfl (by kernel_rfl) ⟨a0, a1, trivial⟩ drains_law
theorem plays_walk {H : Type} {enc : TypeId × Value → H} {base : Nat} (W : World) (v0 v1 : Value) (a0 : Arg enc Try.prog W base 49 v0) (a1 : Arg enc Try.prog W base 44 v1) : Calls Try.prog 6 #[v0, v1] W fun e w' => e = .returned (.bool true) ∧ Below W.heap.size W w' :=
  law_ofS (ps := [pN3, pSts]) (ts := [49, 44]) (vs := [v0, v1]) rfl (by kernel_rfl) ⟨a0, a1, trivial⟩ plays_law
end Go.Proofs.Ytgaiedcmohpiaaa.V
