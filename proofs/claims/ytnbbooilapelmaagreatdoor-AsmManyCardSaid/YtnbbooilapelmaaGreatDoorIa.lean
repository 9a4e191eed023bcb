import Derived.KernelRfl
import Derived.Test.YtnbbooilapelmaaGreatDoorTys
import Derived.Test.YtnbbooilapelmaaGreatDoorKitVt
import Derived.Test.YtnbbooilapelmaaGreatDoorKitVr
import Derived.Test.YtnbbooilapelmaaGreatDoorHas
import Derived.Lib.Bytealg
import Derived.Laws.Externs
namespace Go.Proofs.YtnbbooilapelmaaGreatDoor.V
open Go.RowKit Go.Proofs.YtnbbooilapelmaaGreatDoor
set_option linter.unusedSimpArgs false
abbrev noLoop : Nat → Option LoopSp := fun _ => none
abbrev pI : PS := (false, .int .i64)
abbrev pB : PS := (false, .bool)
abbrev pS : PS := (false, .str)
abbrev pU8 : PS := (false, .int .u8)
abbrev pU : PS := (false, .int .u64)
theorem has_size (op : Int) : (hasS op).size ≤ 3 := by
  unfold hasS
  split
  · unfold tabS
    repeat' split
    all_goals first | decide | (show (ByteArray.mk #[]).size ≤ 3; decide) | (unfold mvS; (repeat' split) <;> decide)
  · decide
theorem v28 : Valid Tryz.prog 28 (.tot (tS [pI] [pS] hasS)) := by
  refine ⟨call28, fun args r hS β F w vs hF hd => ?_⟩
  unfold tS at hS
  split at hS
  case h_2 => cases hS
  rename_i x hx
  cases hS
  obtain ⟨u, r, rfl, hu, hr⟩ := deVs_ok hx hd
  obtain rfl : r = [] := hr
  obtain ⟨rfl, hx2⟩ := hu
  refine ⟨.string (hasS x), ⟨rfl, Nat.le_trans (has_size x) (by unfold maxLen; omega)⟩, fun w' hk hsz => has_any x w' (inR_wf.1 hx2)⟩
theorem index_any (s : ByteArray) (c : Int) (w : World) : Calls Tryz.prog 92 #[.string s, .int .u8 c] w fun e w' => e = .returned (.int .i64 (Lib.indexByte s.data.toList c.toNat.toUInt8)) ∧ w' = w := by
  have hx : ∀ w, (callFunc 108 #[.string s, .int .u8 c]).run Tryz.prog w = .ok (.value (.int .i64 (Lib.indexByte s.data.toList c.toNat.toUInt8))) w := fun w => by
    rw [run_callFunc_extern Tryz.func108 (by kernel_rfl) (by kernel_rfl) (by kernel_rfl) (e := Extern.BytealgIndexByte.indexByte) (by kernel_rfl), Lib.run_indexByteString]
    rfl
  go_enter Tryz.func92, Tryz.ntmps92
  go_wp2
  go_ret
  exact ⟨rfl, rfl⟩
theorem idx_in {s : ByteArray} {c : UInt8} (hs : s.size ≤ maxLen) : inR .i64 (Lib.indexByte s.data.toList c) := by
  have h1 := Lib.indexByte_ge s.data.toList c
  have h2 : ∀ l : List UInt8, Lib.indexByte l c ≤ (l.length : Int) := fun l => by
    induction l with
    | nil => simp [Lib.indexByte]
    | cons b l ih =>
      unfold Lib.indexByte
      have := Lib.indexByte_ge l c
      split
      · simp; omega
      · split
        · simp; omega
        · simp; omega
  have h3 := h2 s.data.toList
  have h4 : s.data.toList.length = s.size := by rfl
  rw [h4] at h3
  have : maxLen = 9223372036854775807 := rfl
  simp only [inR]
  omega
theorem c45 : CallOk Tryz.prog 45 := ⟨_, Tryz.func45, by kernel_rfl, by kernel_rfl⟩
theorem c62 : CallOk Tryz.prog 62 := ⟨_, Tryz.func62, by kernel_rfl, by kernel_rfl⟩
theorem c75 : CallOk Tryz.prog 75 := ⟨_, Tryz.func75, by kernel_rfl, by kernel_rfl⟩
theorem c92 : CallOk Tryz.prog 92 := ⟨_, Tryz.func92, by kernel_rfl, by kernel_rfl⟩
theorem v92 : Valid Tryz.prog 92 (.tot (tS [pS, pU8] [pI] fun x => Lib.indexByte x.1.data.toList x.2.toNat.toUInt8)) := by
  refine ⟨c92, fun args r hS β F w vs hF hd => ?_⟩
  unfold tS at hS
  split at hS
  case h_2 => cases hS
  rename_i x hx
  cases hS
  obtain ⟨u, r, rfl, ⟨rfl, h1⟩, hr⟩ := deVs_ok hx hd
  obtain ⟨v, r, rfl, ⟨rfl, h2⟩, hr⟩ := hr
  obtain rfl : r = [] := hr
  refine ⟨.int .i64 (Lib.indexByte x.1.data.toList x.2.toNat.toUInt8), ⟨rfl, idx_in h1⟩, fun w' hk hsz => (index_any x.1 x.2 w').mono ?_⟩
  rintro e w2 ⟨rfl, rfl⟩
  exact ⟨rfl, Below.refl _ _⟩
abbrev L1 : List (Nat × Spec) := [(28, .tot (tS [pI] [pS] hasS)), (92, .tot (tS [pS, pU8] [pI] fun x => Lib.indexByte x.1.data.toList x.2.toNat.toUInt8))]
theorem L1_all : ∀ p ∈ L1, Valid Tryz.prog p.1 p.2 := vcons v28 (vcons v92 (fun p hp => by cases hp))
theorem L1_ok : ∀ f S, spL L1 f = some S → Valid Tryz.prog f S := spL_ok L1_all
/-- Has a string that byte? -/
def conB (s : ByteArray) (c : UInt8) : Bool := decide (Lib.indexByte s.data.toList c ≥ 0)
/-- strings.Contains, of one byte. -/
def conS (args : List Vl) : Option Rs := match args with
  | [.one (.val (.string s)), .one (.val (.string c))] => (match Nat.beq c.size 1 with | true => some (mkB (conB s (c.data.getD 0 0))) | false => none)
  | _ => none
abbrev inl1 (f : Nat) (fn : Func) (L : List (Nat × Spec)) : Nat × Spec := (f, .full (inl Tbl (spL L) fn noLp))
abbrev L2 : List (Nat × Spec) := inl1 75 Tryz.f75 L1 :: L1
theorem L2_all : ∀ p ∈ L2, Valid Tryz.prog p.1 p.2 := vcons (valid_inl mixed Tbl_ok L1_ok Tryz.func75 c75 noLp) L1_all
theorem L2_ok : ∀ f S, spL L2 f = some S → Valid Tryz.prog f S := spL_ok L2_all
abbrev L3 : List (Nat × Spec) := inl1 62 Tryz.f62 L2 :: L2
theorem L3_all : ∀ p ∈ L3, Valid Tryz.prog p.1 p.2 := vcons (valid_inl mixed Tbl_ok L2_ok Tryz.func62 c62 noLp) L2_all
theorem L3_ok : ∀ f S, spL L3 f = some S → Valid Tryz.prog f S := spL_ok L3_all
theorem v45 : Valid Tryz.prog 45 (.tot conS) := by
  refine valid_tot mixed Tbl_ok L3_ok Tryz.func45 c45 fun args r hS hr => ?_
  unfold conS at hS
  split at hS
  case h_2 => cases hS
  rename_i s c
  split at hS
  case h_2 => cases hS
  rename_i hc
  cases hS
  obtain ⟨b, rfl⟩ : ∃ b, c = ⟨#[b]⟩ := by
    obtain ⟨⟨l⟩⟩ := c
    have hc : l.length = 1 := Nat.eq_of_beq_eq_true hc
    match l, hc with
    | [b], _ => exact ⟨b, rfl⟩
  refine ⟨rfl, rfl, noLoop, ?_⟩
  refine Eq.mp (by kernel_rfl : ((((↑(ByteArray.mk (b :: ([] : List UInt8)).toArray).size : Int) == (0 : Int) || (ByteArray.mk (b :: ([] : List UInt8)).toArray).toList == s.toList) = true → true = conB s ((b :: ([] : List UInt8)).toArray.getD (0 : Nat) (0 : UInt8)) ∧ True) ∧ (((↑(ByteArray.mk (b :: ([] : List UInt8)).toArray).size : Int) == (0 : Int) || (ByteArray.mk (b :: ([] : List UInt8)).toArray).toList == s.toList) = false → (((↑(ByteArray.mk (b :: ([] : List UInt8)).toArray).size : Int) == (1 : Int)) = true → ((0 : Int) ≤ (0 : Int) ∧ (0 : Int) < (↑(ByteArray.mk (b :: ([] : List UInt8)).toArray).size : Int)) ∧ ∀ (y : UInt8), (ByteArray.mk (b :: ([] : List UInt8)).toArray)[Int.toNat (0 : Int)]? = some y → decide (Lib.indexByte s.data.toList (↑y.toNat : Int).toNat.toUInt8 ≥ (0 : Int)) = conB s ((b :: ([] : List UInt8)).toArray.getD (0 : Nat) (0 : UInt8)) ∧ True) ∧ (((↑(ByteArray.mk (b :: ([] : List UInt8)).toArray).size : Int) == (1 : Int)) = false → (decide ((↑(ByteArray.mk (b :: ([] : List UInt8)).toArray).size : Int) ≥ (↑s.size : Int)) = true → false = conB s ((b :: ([] : List UInt8)).toArray.getD (0 : Nat) (0 : UInt8)) ∧ True) ∧ (decide ((↑(ByteArray.mk (b :: ([] : List UInt8)).toArray).size : Int) ≥ (↑s.size : Int)) = false → False)))) = _) ?_
  have hz : ((ByteArray.mk #[b]).size : Int) = 1 := rfl
  have hb : (ByteArray.mk #[b])[Int.toNat 0]? = some b := rfl
  refine ⟨fun h => ⟨?_, trivial⟩, fun _ => ⟨fun _ => ⟨⟨by omega, by omega⟩, fun y hy => ⟨?_, trivial⟩⟩, fun h => ?_⟩⟩
  · simp only [Bool.or_eq_true] at h
    rcases h with h | h
    · cases h
    · obtain rfl := bytes_eq.1 h
      simp [conB, Lib.indexByte]
  · rw [hb] at hy
    cases hy
    simp [conB]
  · cases h
abbrev L4 : List (Nat × Spec) := (45, .tot conS) :: L3
theorem L4_all : ∀ p ∈ L4, Valid Tryz.prog p.1 p.2 := vcons v45 L3_all
theorem L4_ok : ∀ f S, spL L4 f = some S → Valid Tryz.prog f S := spL_ok L4_all
end Go.Proofs.YtnbbooilapelmaaGreatDoor.V
