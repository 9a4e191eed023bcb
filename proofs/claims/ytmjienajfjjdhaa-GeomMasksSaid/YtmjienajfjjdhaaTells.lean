/-
  GeomTells, walked.
-/
import Derived.Test.YtmjienajfjjdhaaWakes
namespace Go.Proofs.Ytmjienajfjjdhaa
open Go.RowKit
attribute [local go_sem ↓] Go.wp_at_zero Go.wp_at_succ

set_option maxRecDepth 100000 in
theorem count_all : (List.range 256).all (fun (k : Nat) => pcI k == ((coresU k 8).length : Int)) = true := by kernel_rfl
theorem count_len (m : Int) (h0 : 0 ≤ m) (h1 : m ≤ 255) : pcI m = ((coresU m 8).length : Int) := by
  obtain ⟨k, rfl⟩ : ∃ k : Nat, m = k := ⟨m.toNat, by omega⟩
  have h := List.all_eq_true.1 count_all k (List.mem_range.2 (by omega))
  exact eq_of_beq h
set_option maxRecDepth 100000 in
set_option maxHeartbeats 4000000 in
theorem tells_law (n line m : Int) (h0 : 0 ≤ m) (h1 : m ≤ 255) (w : World) :
    Calls Try.prog 3 #[.int .i64 n, .int .i64 line, .int .u8 m] w fun e w' => e = .returned (.bool true) ∧ Below w.heap.size w w' := by
  have c1 := fun w => set_any n line w
  have c2 := fun w => rset_any n line w
  have c3 := fun w => bit_any line w
  have c4 := fun w => rbit_any line w
  have c5 := fun w => has_any m line w
  have c6 := fun w => rhas_any m line w
  have c7 := fun w => cores_any m w
  have c8 := fun w => rcores_any m w
  have c9 := fun w => count_any m h0 h1 w
  have c10 := fun w => first_any m w
  have c11 := fun w => rfirst_any m w
  have hl := count_len m h0 h1
  rw [hl] at c9
  generalize setI n line = x1 at c1 c2
  generalize bitI line = x2 at c3 c4
  generalize hasB m line = x3 at c5 c6
  generalize firstI m = x4 at c10 c11
  obtain ⟨xs, hxs⟩ : ∃ xs, coresU m 8 = xs := ⟨_, rfl⟩
  simp only [hxs] at c7 c8 c9
  have C1 := Lib.hid c1; have C2 := Lib.hid c2; have C3 := Lib.hid c3; have C4 := Lib.hid c4; have C5 := Lib.hid c5; have C6 := Lib.hid c6; have C7 := Lib.hid c7; have C8 := Lib.hid c8; have C9 := Lib.hid c9; have C10 := Lib.hid c10; have C11 := Lib.hid c11
  clear c1 c2 c3 c4 c5 c6 c7 c8 c9 c10 c11 hl hxs
  go_enter Try.func3, Try.ntmps3
  go_wp2_with fail
  refine (C1.out _).mono ?_
  rintro e w1 ⟨rfl, rfl⟩
  go_wp2_with fail
  refine (C2.out _).mono ?_
  rintro e w1 ⟨rfl, rfl⟩
  go_wp2_with fail
  refine (C3.out _).mono ?_
  rintro e w1 ⟨rfl, rfl⟩
  go_wp2_with fail
  refine (C4.out _).mono ?_
  rintro e w1 ⟨rfl, rfl⟩
  go_wp2_with fail
  refine (C5.out _).mono ?_
  rintro e w1 ⟨rfl, rfl⟩
  go_wp2_with fail
  refine (C6.out _).mono ?_
  rintro e w1 ⟨rfl, rfl⟩
  go_wp2_with fail
  refine (C7.out _).mono ?_
  rintro e w1 ⟨v1, rfl, hO1, hB1⟩
  have HO1 := Lib.hid hO1; have HB1 := Lib.hid hB1
  clear hO1 hB1
  go_wp2_with fail
  refine (C8.out _).mono ?_
  rintro e w2 ⟨v2, rfl, hO2, hb2⟩
  have HO1' := Lib.hid (HO1.out.below' hb2)
  have HO2 := Lib.hid hO2; have HB2 := Lib.hid (Below.then HB1.out hb2)
  clear hO2 hb2
  go_wp2_with fail
  refine (ints_same _ _ xs _ HO1'.out.rds HO2.out.rds).mono ?_
  rintro e w3 ⟨rfl, hb3⟩
  have HB3 := Lib.hid (Below.then HB2.out hb3)
  clear hb3
  go_wp2_with fail
  refine (C9.out _).mono ?_
  rintro e w4 ⟨rfl, hb4⟩
  have HB4 := Lib.hid (Below.then HB3.out hb4)
  clear hb4
  go_wp2_with fail
  refine (C8.out _).mono ?_
  rintro e w5 ⟨v5, rfl, hO5, hb5⟩
  have HB5 := Lib.hid (Below.then HB4.out hb5)
  obtain ⟨a5, c5, rfl, _, _⟩ := hO5.any
  clear hO5 hb5
  go_wp2_with fail
  refine (C10.out _).mono ?_
  rintro e w6 ⟨rfl, hb6⟩
  have HB6 := Lib.hid (Below.then HB5.out hb6)
  clear hb6
  go_wp2_with fail
  refine (C11.out _).mono ?_
  rintro e w7 ⟨rfl, hb7⟩
  have HB7 := Lib.hid (Below.then HB6.out hb7)
  clear hb7
  go_wp2_with fail
  refine (wakes_any _).mono ?_
  rintro e w8 ⟨rfl, hb8⟩
  have HB8 := Lib.hid (Below.then HB7.out hb8)
  clear hb8
  go_wp2
  go_ret
  exact ⟨rfl, HB8.out⟩
section
variable {H : Type} {enc : TypeId × Value → H}
theorem tells_walk {base : Nat} (W : World) (v0 v1 v2 : Value) (a0 : Arg enc Try.prog W base 3 v0) (a1 : Arg enc Try.prog W base 3 v1) (a2 : Arg enc Try.prog W base 5 v2) :
    Calls Try.prog 3 #[v0, v1, v2] W fun e w' => e = .returned (.bool true) ∧ Below W.heap.size W w' := by
  obtain ⟨n, rfl, _⟩ := a0.int Try.underlying3
  obtain ⟨l, rfl, _⟩ := a1.int Try.underlying3
  obtain ⟨m, rfl, hm⟩ := a2.int Try.underlying5
  obtain ⟨hm0, hm1⟩ := wf_u8 hm
  exact tells_law n l m hm0 hm1 W
end
end Go.Proofs.Ytmjienajfjjdhaa
