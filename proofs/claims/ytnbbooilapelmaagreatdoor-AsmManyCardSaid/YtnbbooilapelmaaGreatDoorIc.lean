import Derived.KernelRfl
import Derived.Test.YtnbbooilapelmaaGreatDoorIb
import Derived.Laws.Bits64b
namespace Go.Proofs.YtnbbooilapelmaaGreatDoor.V
open Go.RowKit Go.Proofs.YtnbbooilapelmaaGreatDoor
set_option linter.unusedSimpArgs false
/-- An instruction's word. -/
def encW : IN → Int := fun (op, a, b, c, m) => op + a * 256 + b * 4096 + c * 65536 + (m % 4294967296) * 4294967296
def encF : IN → Int × Int := fun i => match goodF i with | true => (encW i, 0) | false => (0, 11)
theorem encF_t {i : IN} (h : goodF i = true) : encF i = (encW i, 0) := by simp [encF, h]
theorem encF_f {i : IN} (h : goodF i = false) : encF i = (0, 11) := by simp [encF, h]
abbrev zI : IN := (0, 0, 0, 0, 0)
/-- The fields of a word. -/
def decI : Int → IN := fun u => (u % 256, u / 256 % 16, u / 4096 % 16, u / 65536 % 16, (match decide (u / 4294967296 ≥ 2147483648) with | true => u / 4294967296 - 4294967296 | false => u / 4294967296))
def decG : Int → Bool := fun u => u / 1048576 % 4096 == 0 && goodF (decI u)
def decF : Int → IN × Int := fun u => match decG u with | true => (decI u, 0) | false => (zI, 11)
theorem good_bds {op a b c m : Int} (h : goodF (op, a, b, c, m) = true) : (0 ≤ op ∧ op ≤ 22) ∧ (0 ≤ a ∧ a ≤ 7) ∧ (0 ≤ b ∧ b ≤ 7) ∧ (0 ≤ c ∧ c ≤ 7) ∧ (-2147483648 ≤ m ∧ m ≤ 2147483647) := by
  have hg : goodF (op, a, b, c, m) = (isF op && regF a (hasB op 65) && regF b (hasB op 66) && regF c (hasB op 67) && (match hasB op 73 with | true => immF m && (decide (m ≥ 0) || !jmpF op) | false => m == 0)) := rfl
  rw [hg] at h
  simp only [Bool.and_eq_true] at h
  obtain ⟨⟨⟨⟨h1, h2⟩, h3⟩, h4⟩, h5⟩ := h
  have rr : ∀ {n : Int} {x : Bool}, regF n x = true → 0 ≤ n ∧ n ≤ 7 := fun {n x} h => by
    simp [regF] at h; omega
  refine ⟨by simpa [isF] using h1, rr h2, rr h3, rr h4, ?_⟩
  split at h5
  · simp [immF] at h5; omega
  · simp at h5; omega
theorem or_add (k : Nat) (x z : Nat) (hx : x < 2 ^ k) (hb : z * 2 ^ k + x < 18446744073709551616) : bits .or .u64 (x : Int) ((z * 2 ^ k : Nat) : Int) = ((x + z * 2 ^ k : Nat) : Int) := by
  rw [bits_or_u64_nat _ _ (by omega) (by omega)]
  have := Nat.two_pow_add_eq_or_of_lt hx z
  rw [Nat.or_comm, Nat.mul_comm z, ← this, Nat.add_comm]
theorem or_256 {x y : Int} (hx : 0 ≤ x ∧ x < 256) (hy : 0 ≤ y ∧ y < 16) : bits .or .u64 x (y * 256) = x + y * 256 := by
  obtain ⟨x, rfl⟩ := Int.eq_ofNat_of_zero_le hx.1
  obtain ⟨y, rfl⟩ := Int.eq_ofNat_of_zero_le hy.1
  have := or_add 8 x y (by omega) (by omega)
  simpa using this
theorem or_4096 {x y : Int} (hx : 0 ≤ x ∧ x < 4096) (hy : 0 ≤ y ∧ y < 16) : bits .or .u64 x (y * 4096) = x + y * 4096 := by
  obtain ⟨x, rfl⟩ := Int.eq_ofNat_of_zero_le hx.1
  obtain ⟨y, rfl⟩ := Int.eq_ofNat_of_zero_le hy.1
  have := or_add 12 x y (by omega) (by omega)
  simpa using this
theorem or_65536 {x y : Int} (hx : 0 ≤ x ∧ x < 65536) (hy : 0 ≤ y ∧ y < 16) : bits .or .u64 x (y * 65536) = x + y * 65536 := by
  obtain ⟨x, rfl⟩ := Int.eq_ofNat_of_zero_le hx.1
  obtain ⟨y, rfl⟩ := Int.eq_ofNat_of_zero_le hy.1
  have := or_add 16 x y (by omega) (by omega)
  simpa using this
theorem or_32 {x y : Int} (hx : 0 ≤ x ∧ x < 4294967296) (hy : 0 ≤ y ∧ y < 4294967296) : bits .or .u64 x (y * 4294967296) = x + y * 4294967296 := by
  obtain ⟨x, rfl⟩ := Int.eq_ofNat_of_zero_le hx.1
  obtain ⟨y, rfl⟩ := Int.eq_ofNat_of_zero_le hy.1
  have := or_add 32 x y (by omega) (by omega)
  simpa using this
theorem and_15 {x : Int} (hx : 0 ≤ x ∧ x < 18446744073709551616) : bits .and .u64 x 15 = x % 16 := by
  obtain ⟨x, rfl⟩ := Int.eq_ofNat_of_zero_le hx.1
  have := bits_and_u64_nat x 15 (by omega) (by omega)
  have h2 := Nat.and_two_pow_sub_one_eq_mod x 4
  simp only [show (2 ^ 4 - 1 : Nat) = 15 from rfl, show (2 ^ 4 : Nat) = 16 from rfl] at h2
  rw [h2] at this
  simpa using this
theorem fd (a : Int) (n : Nat) : Int.fdiv a (OfNat.ofNat (n + 2)) = a / OfNat.ofNat (n + 2) := Int.fdiv_eq_ediv_of_nonneg _ (by exact Int.natCast_nonneg _)
theorem i64_id {x : Int} (h : -9223372036854775808 ≤ x ∧ x ≤ 9223372036854775807) : IntKind.i64.wrap x = x := by
  rw [IntKind.wrap_i64]; omega
theorem dec_imm {u : Int} (h : 0 ≤ u ∧ u ≤ 18446744073709551615) : (IntKind.i64.wrap u).fdiv 4294967296 = (match decide (u / 4294967296 ≥ 2147483648) with | true => u / 4294967296 - 4294967296 | false => u / 4294967296) := by
  rw [Int.fdiv_eq_ediv_of_nonneg _ (by omega), IntKind.wrap_i64]
  by_cases hu : u / 4294967296 ≥ 2147483648
  · rw [decide_eq_true hu]; simp only; omega
  · rw [decide_eq_false hu]; simp only; omega
theorem encW_decI {u : Int} (h : 0 ≤ u ∧ u ≤ 18446744073709551615) : encW (decI u) = u - (u / 1048576 % 4096) * 1048576 := by
  unfold encW decI
  by_cases hu : u / 4294967296 ≥ 2147483648
  · rw [decide_eq_true hu]; simp only; omega
  · rw [decide_eq_false hu]; simp only; omega
theorem encW_bds {i : IN} (h : goodF i = true) : (0 ≤ encW i ∧ encW i ≤ 18446744073709551615) ∧ encW i / 1048576 % 4096 = 0 := by
  obtain ⟨op, a, b, c, m⟩ := i
  have := good_bds h
  unfold encW
  simp only
  omega
theorem decI_encW {i : IN} (h : goodF i = true) : decI (encW i) = i := by
  obtain ⟨op, a, b, c, m⟩ := i
  have := good_bds h
  unfold decI encW
  simp only [Prod.mk.injEq]
  refine ⟨by omega, by omega, by omega, by omega, ?_⟩
  split
  · rename_i hu
    have := of_decide_eq_true hu
    omega
  · rename_i hu
    have := of_decide_eq_false hu
    omega
theorem v25 : Valid Tryz.prog 25 (.tot (tS [pN] [pU, pI] encF)) := by
  refine tS_ok mixed Tbl_ok L8_ok Tryz.func25 call25 rfl rfl rfl ?_
  rintro ⟨(op : Int), (a : Int), (b : Int), (c : Int), (m : Int)⟩ hr z rfl
  refine ⟨noLoop, ?_⟩
  refine Eq.mp (by kernel_rfl : (((!goodF (op, a, b, c, m)) = true → (0 : Int) = (encF (op, a, b, c, m)).fst ∧ (11 : Int) = (encF (op, a, b, c, m)).snd ∧ True) ∧ ((!goodF (op, a, b, c, m)) = false → (0 : Int) ≤ (8 : Int) ∧ (0 : Int) ≤ (12 : Int) ∧ (0 : Int) ≤ (16 : Int) ∧ (0 : Int) ≤ (32 : Int) ∧ bits BinOp.or IntKind.u64 (bits BinOp.or IntKind.u64 (bits BinOp.or IntKind.u64 (bits BinOp.or IntKind.u64 (IntKind.u64.wrap op) (IntKind.u64.wrap (IntKind.u64.wrap a * (256 : Int)))) (IntKind.u64.wrap (IntKind.u64.wrap b * (4096 : Int)))) (IntKind.u64.wrap (IntKind.u64.wrap c * (65536 : Int)))) (IntKind.u64.wrap (IntKind.u64.wrap m * (4294967296 : Int))) = (encF (op, a, b, c, m)).fst ∧ (0 : Int) = (encF (op, a, b, c, m)).snd ∧ True)) = _) ?_
  cases hg : goodF (op, a, b, c, m) with
  | false => simp [encF_f hg]
  | true =>
    have hb := good_bds hg
    rw [encF_t hg]
    refine ⟨fun h => by simp at h, fun _ => ⟨by omega, by omega, by omega, by omega, ?_, rfl, trivial⟩⟩
    simp only [IntKind.wrap_u64]
    rw [show op % 18446744073709551616 = op by omega, show a % 18446744073709551616 * 256 % 18446744073709551616 = a * 256 by omega, show b % 18446744073709551616 * 4096 % 18446744073709551616 = b * 4096 by omega, show c % 18446744073709551616 * 65536 % 18446744073709551616 = c * 65536 by omega, show m % 18446744073709551616 * 4294967296 % 18446744073709551616 = (m % 4294967296) * 4294967296 by omega]
    rw [or_256 (by omega) (by omega), or_4096 (by omega) (by omega), or_65536 (by omega) (by omega), or_32 (by omega) (by omega)]
    rfl
theorem v26 : Valid Tryz.prog 26 (.tot (tS [pN] [pU, pI] encF)) := by
  refine tS_ok mixed Tbl_ok L8_ok Tryz.func26 call26 rfl rfl rfl ?_
  rintro ⟨(op : Int), (a : Int), (b : Int), (c : Int), (m : Int)⟩ hr z rfl
  refine ⟨noLoop, ?_⟩
  refine Eq.mp (by kernel_rfl : (((!goodF (op, a, b, c, m)) = true → (0 : Int) = (encF (op, a, b, c, m)).fst ∧ (11 : Int) = (encF (op, a, b, c, m)).snd ∧ True) ∧ ((!goodF (op, a, b, c, m)) = false → (decide (m < (0 : Int)) = true → ((-9223372036854775808 : Int) ≤ m + (4294967296 : Int) ∧ m + (4294967296 : Int) ≤ (9223372036854775807 : Int)) ∧ (0 : Int) ≤ (8 : Int) ∧ (0 : Int) ≤ (12 : Int) ∧ (0 : Int) ≤ (16 : Int) ∧ (0 : Int) ≤ (32 : Int) ∧ IntKind.u64.wrap (IntKind.u64.wrap (IntKind.u64.wrap (IntKind.u64.wrap (IntKind.u64.wrap op + IntKind.u64.wrap (IntKind.u64.wrap a * (256 : Int))) + IntKind.u64.wrap (IntKind.u64.wrap b * (4096 : Int))) + IntKind.u64.wrap (IntKind.u64.wrap c * (65536 : Int))) + IntKind.u64.wrap (IntKind.u64.wrap (m + (4294967296 : Int)) * (4294967296 : Int))) = (encF (op, a, b, c, m)).fst ∧ (0 : Int) = (encF (op, a, b, c, m)).snd ∧ True) ∧ (decide (m < (0 : Int)) = false → (0 : Int) ≤ (8 : Int) ∧ (0 : Int) ≤ (12 : Int) ∧ (0 : Int) ≤ (16 : Int) ∧ (0 : Int) ≤ (32 : Int) ∧ IntKind.u64.wrap (IntKind.u64.wrap (IntKind.u64.wrap (IntKind.u64.wrap (IntKind.u64.wrap op + IntKind.u64.wrap (IntKind.u64.wrap a * (256 : Int))) + IntKind.u64.wrap (IntKind.u64.wrap b * (4096 : Int))) + IntKind.u64.wrap (IntKind.u64.wrap c * (65536 : Int))) + IntKind.u64.wrap (IntKind.u64.wrap m * (4294967296 : Int))) = (encF (op, a, b, c, m)).fst ∧ (0 : Int) = (encF (op, a, b, c, m)).snd ∧ True))) = _) ?_
  cases hg : goodF (op, a, b, c, m) with
  | false => simp [encF_f hg]
  | true =>
    have hb := good_bds hg
    rw [encF_t hg]
    refine ⟨fun h => by simp at h, fun _ => ⟨fun hm => ⟨⟨by omega, by omega⟩, by omega, by omega, by omega, by omega, ?_, rfl, trivial⟩, fun hm => ⟨by omega, by omega, by omega, by omega, ?_, rfl, trivial⟩⟩⟩
    all_goals
      simp only [decide_eq_true_eq, decide_eq_false_iff_not] at hm
      simp only [IntKind.wrap_u64, encW]
      omega
theorem decF_t {u : Int} (h : decG u = true) : decF u = (decI u, 0) := by simp [decF, h]
theorem decF_f {u : Int} (h : decG u = false) : decF u = (zI, 11) := by simp [decF, h]
abbrev L9 : List (Nat × Spec) := (26, .tot (tS [pN] [pU, pI] encF)) :: (25, .tot (tS [pN] [pU, pI] encF)) :: L8
theorem L9_all : ∀ p ∈ L9, Valid Tryz.prog p.1 p.2 := vcons v26 (vcons v25 L8_all)
theorem L9_ok : ∀ f S, spL L9 f = some S → Valid Tryz.prog f S := spL_ok L9_all
theorem rdec {u : Int} (h : 0 ≤ u ∧ u ≤ 18446744073709551615) : ((encF (decI u)).snd != 0 || (encF (decI u)).fst != u) = !decG u := by
  have hd : decG u = (u / 1048576 % 4096 == 0 && goodF (decI u)) := rfl
  have he := encW_decI h
  cases hg : goodF (decI u) with
  | false => rw [hd, hg, encF_f hg]; simp
  | true =>
    rw [hd, hg, encF_t hg]
    simp only [bne_self_eq_false, Bool.false_or, Bool.and_true]
    rw [he]
    rw [Bool.eq_iff_iff]
    simp
    omega
end Go.Proofs.YtnbbooilapelmaaGreatDoor.V
