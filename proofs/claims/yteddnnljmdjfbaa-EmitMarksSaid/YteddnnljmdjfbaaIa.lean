import Derived.KernelRfl
import Derived.Test.YteddnnljmdjfbaaTys
import Derived.Test.YteddnnljmdjfbaaKitVB
import Derived.Test.YteddnnljmdjfbaaHas
import Derived.Lib.Bytealg
import Derived.Laws.Externs
namespace Go.Proofs.Yteddnnljmdjfbaa.V
open Go.RowKit Go.Proofs.Yteddnnljmdjfbaa
set_option linter.unusedSimpArgs false
abbrev noLoop : Nat → Option LoopSp := fun _ => none
abbrev pI : PS := (false, .int .i64)
abbrev pB : PS := (false, .bool)
abbrev pS : PS := (false, .str)
abbrev pU8 : PS := (false, .int .u8)
abbrev pU : PS := (false, .int .u64)
theorem has_size (op : Int) : (hasS op).size ≤ 3 := by
  unfold hasS
  split
  · unfold tabS
    repeat' split
    all_goals first | decide | (show (ByteArray.mk #[]).size ≤ 3; decide) | (unfold mvS; (repeat' split) <;> decide)
  · decide
theorem v29 : Valid Try.prog 29 (.tot (tS [pI] [pS] hasS)) := by
  refine ⟨call29, fun args r hS β F w vs hF hd => ?_⟩
  unfold tS at hS
  split at hS
  case h_2 => cases hS
  rename_i x hx
  cases hS
  obtain ⟨u, r, rfl, hu, hr⟩ := deVs_ok hx hd
  obtain rfl : r = [] := hr
  obtain ⟨rfl, hx2⟩ := hu
  refine ⟨.string (hasS x), ⟨rfl, Nat.le_trans (has_size x) (by unfold maxLen; omega)⟩, fun w' hk hsz => has_any x w' (inR_wf.1 hx2)⟩
theorem index_any (s : ByteArray) (c : Int) (w : World) : Calls Try.prog 47 #[.string s, .int .u8 c] w fun e w' => e = .returned (.int .i64 (Lib.indexByte s.data.toList c.toNat.toUInt8)) ∧ w' = w := by
  have hx : ∀ w, (callFunc 55 #[.string s, .int .u8 c]).run Try.prog w = .ok (.value (.int .i64 (Lib.indexByte s.data.toList c.toNat.toUInt8))) w := fun w => by
    rw [run_callFunc_extern Try.func55 (by kernel_rfl) (by kernel_rfl) (by kernel_rfl) (e := Extern.BytealgIndexByte.indexByte) (by kernel_rfl), Lib.run_indexByteString]
    rfl
  go_enter Try.func47, Try.ntmps47
  go_wp2
  go_ret
  exact ⟨rfl, rfl⟩
theorem idx_in {s : ByteArray} {c : UInt8} (hs : s.size ≤ maxLen) : inR .i64 (Lib.indexByte s.data.toList c) := by
  have h1 := Lib.indexByte_ge s.data.toList c
  have h2 : ∀ l : List UInt8, Lib.indexByte l c ≤ (l.length : Int) := fun l => by
    induction l with
    | nil => simp [Lib.indexByte]
    | cons b l ih =>
      unfold Lib.indexByte
      have := Lib.indexByte_ge l c
      split
      · simp; omega
      · split
        · simp; omega
        · simp; omega
  have h3 := h2 s.data.toList
  have h4 : s.data.toList.length = s.size := by rfl
  rw [h4] at h3
  have : maxLen = 9223372036854775807 := rfl
  simp only [inR]
  omega
theorem c32 : CallOk Try.prog 32 := ⟨_, Try.func32, by kernel_rfl, by kernel_rfl⟩
theorem c38 : CallOk Try.prog 38 := ⟨_, Try.func38, by kernel_rfl, by kernel_rfl⟩
theorem c42 : CallOk Try.prog 42 := ⟨_, Try.func42, by kernel_rfl, by kernel_rfl⟩
theorem c47 : CallOk Try.prog 47 := ⟨_, Try.func47, by kernel_rfl, by kernel_rfl⟩
theorem v47 : Valid Try.prog 47 (.tot (tS [pS, pU8] [pI] fun x => Lib.indexByte x.1.data.toList x.2.toNat.toUInt8)) := by
  refine ⟨c47, fun args r hS β F w vs hF hd => ?_⟩
  unfold tS at hS
  split at hS
  case h_2 => cases hS
  rename_i x hx
  cases hS
  obtain ⟨u, r, rfl, ⟨rfl, h1⟩, hr⟩ := deVs_ok hx hd
  obtain ⟨v, r, rfl, ⟨rfl, h2⟩, hr⟩ := hr
  obtain rfl : r = [] := hr
  refine ⟨.int .i64 (Lib.indexByte x.1.data.toList x.2.toNat.toUInt8), ⟨rfl, idx_in h1⟩, fun w' hk hsz => (index_any x.1 x.2 w').mono ?_⟩
  rintro e w2 ⟨rfl, rfl⟩
  exact ⟨rfl, Below.refl _ _⟩
abbrev L1 : List (Nat × Spec) := [(29, .tot (tS [pI] [pS] hasS)), (47, .tot (tS [pS, pU8] [pI] fun x => Lib.indexByte x.1.data.toList x.2.toNat.toUInt8))]
theorem L1_all : ∀ p ∈ L1, Valid Try.prog p.1 p.2 := vcons v29 (vcons v47 (fun p hp => by cases hp))
theorem L1_ok : ∀ f S, spL L1 f = some S → Valid Try.prog f S := spL_ok L1_all
/-- Has a string that byte? -/
def conB (s : ByteArray) (c : UInt8) : Bool := decide (Lib.indexByte s.data.toList c ≥ 0)
/-- strings.Contains, of one byte. -/
def conS (args : List Vl) : Option Rs := match args with
  | [.one (.val (.string s)), .one (.val (.string c))] => (match Nat.beq c.size 1 with | true => some (mkB (conB s (c.data.getD 0 0))) | false => none)
  | _ => none
abbrev inl1 (f : Nat) (fn : Func) (L : List (Nat × Spec)) : Nat × Spec := (f, .full (inl Tbl (spL L) fn noLp))
abbrev L2 : List (Nat × Spec) := inl1 42 Try.f42 L1 :: L1
theorem L2_all : ∀ p ∈ L2, Valid Try.prog p.1 p.2 := vcons (valid_inl mixed Tbl_ok L1_ok Try.func42 c42 noLp) L1_all
theorem L2_ok : ∀ f S, spL L2 f = some S → Valid Try.prog f S := spL_ok L2_all
abbrev L3 : List (Nat × Spec) := inl1 38 Try.f38 L2 :: L2
theorem L3_all : ∀ p ∈ L3, Valid Try.prog p.1 p.2 := vcons (valid_inl mixed Tbl_ok L2_ok Try.func38 c38 noLp) L2_all
theorem L3_ok : ∀ f S, spL L3 f = some S → Valid Try.prog f S := spL_ok L3_all
theorem v32 : Valid Try.prog 32 (.tot conS) := by
  refine valid_tot mixed Tbl_ok L3_ok Try.func32 c32 fun args r hS hr => ?_
  unfold conS at hS
  split at hS
  case h_2 => cases hS
  rename_i s c
  split at hS
  case h_2 => cases hS
  rename_i hc
  cases hS
  obtain ⟨b, rfl⟩ : ∃ b, c = ⟨#[b]⟩ := by
    obtain ⟨⟨l⟩⟩ := c
    have hc : l.length = 1 := Nat.eq_of_beq_eq_true hc
    match l, hc with
    | [b], _ => exact ⟨b, rfl⟩
  refine ⟨rfl, rfl, noLoop, ?_⟩
  refine Eq.mp (by kernel_rfl : ((((↑(ByteArray.mk (b :: ([] : List UInt8)).toArray).size : Int) == (0 : Int) || (ByteArray.mk (b :: ([] : List UInt8)).toArray).toList == s.toList) = true → true = conB s ((b :: ([] : List UInt8)).toArray.getD (0 : Nat) (0 : UInt8)) ∧ True) ∧ (((↑(ByteArray.mk (b :: ([] : List UInt8)).toArray).size : Int) == (0 : Int) || (ByteArray.mk (b :: ([] : List UInt8)).toArray).toList == s.toList) = false → (((↑(ByteArray.mk (b :: ([] : List UInt8)).toArray).size : Int) == (1 : Int)) = true → ((0 : Int) ≤ (0 : Int) ∧ (0 : Int) < (↑(ByteArray.mk (b :: ([] : List UInt8)).toArray).size : Int)) ∧ ∀ (y : UInt8), (ByteArray.mk (b :: ([] : List UInt8)).toArray)[Int.toNat (0 : Int)]? = some y → decide (Lib.indexByte s.data.toList (↑y.toNat : Int).toNat.toUInt8 ≥ (0 : Int)) = conB s ((b :: ([] : List UInt8)).toArray.getD (0 : Nat) (0 : UInt8)) ∧ True) ∧ (((↑(ByteArray.mk (b :: ([] : List UInt8)).toArray).size : Int) == (1 : Int)) = false → (decide ((↑(ByteArray.mk (b :: ([] : List UInt8)).toArray).size : Int) ≥ (↑s.size : Int)) = true → false = conB s ((b :: ([] : List UInt8)).toArray.getD (0 : Nat) (0 : UInt8)) ∧ True) ∧ (decide ((↑(ByteArray.mk (b :: ([] : List UInt8)).toArray).size : Int) ≥ (↑s.size : Int)) = false → False)))) = _) ?_
  have hz : ((ByteArray.mk #[b]).size : Int) = 1 := rfl
  have hb : (ByteArray.mk #[b])[Int.toNat 0]? = some b := rfl
  refine ⟨fun h => ⟨?_, trivial⟩, fun _ => ⟨fun _ => ⟨⟨by omega, by omega⟩, fun y hy => ⟨?_, trivial⟩⟩, fun h => ?_⟩⟩
  · simp only [Bool.or_eq_true] at h
    rcases h with h | h
    · cases h
    · obtain rfl := bytes_eq.1 h
      simp [conB, Lib.indexByte]
  · rw [hb] at hy
    cases hy
    simp [conB]
  · cases h
abbrev L4 : List (Nat × Spec) := (32, .tot conS) :: L3
theorem L4_all : ∀ p ∈ L4, Valid Try.prog p.1 p.2 := vcons v32 L3_all
theorem L4_ok : ∀ f S, spL L4 f = some S → Valid Try.prog f S := spL_ok L4_all
end Go.Proofs.Yteddnnljmdjfbaa.V
