import Derived.KernelRfl
import Derived.Test.YtilmljgjkcgkjaaIc
import Derived.Test.YtilmljgjkcgkjaaKitVr
namespace Go.Proofs.Ytilmljgjkcgkjaa.V
open Go.RowKit Go.Proofs.Ytilmljgjkcgkjaa
set_option linter.unusedSimpArgs false
theorem enc_bad (i : IN) : ((encF i).snd == 11) = !goodF i := by cases h : goodF i <;> simp [encF, h]
theorem enc_ne (i : IN) : ((encF i).snd != 0) = !goodF i := by cases h : goodF i <;> simp [encF, h]
theorem enc_ok (i : IN) : ((encF i).snd == 0) = goodF i := by cases h : goodF i <;> simp [encF, h]
theorem dec_bad (u : Int) : ((decF u).snd == 11) = !decG u := by cases h : decG u <;> simp [decF, h]
theorem decF_encW {i : IN} (h : goodF i = true) : decF (encW i) = (i, 0) := by
  have h1 := encW_bds h
  have h2 := decI_encW h
  have : decG (encW i) = true := by unfold decG; rw [h2, h, h1.2]; rfl
  rw [decF_t this, h2]
theorem enc_inj {i j : IN} (h : goodF i = true) (h' : goodF j = true) (he : encW i = encW j) : i = j := by
  rw [← decI_encW h, ← decI_encW h', he]
theorem dec_good {u : Int} (h : decG u = true) : goodF (decI u) = true ∧ u / 1048576 % 4096 = 0 := by
  unfold decG at h
  simp only [Bool.and_eq_true, beq_iff_eq] at h
  exact ⟨h.2, h.1⟩
theorem ops_all {P : Int → Bool} (h : (List.range 23).all (fun n => P (n : Int)) = true) {op : Int} (ho : 0 ≤ op ∧ op ≤ 22) : P op = true := by
  obtain ⟨n, rfl⟩ := Int.eq_ofNat_of_zero_le ho.1
  exact List.all_eq_true.1 h n (List.mem_range.2 (by omega))
def chkA (op : Int) : Bool := match (hasS op)[0]? with | some y => hasB op 65 == ((y.toNat : Int) == 65) | none => !hasB op 65
def eqS (s : ByteArray) (l : List UInt8) : Bool := s.toList == (ByteArray.mk l.toArray).toList
def chkR (op : Int) : Bool := (hasB op 66 == !(eqS (hasS op) [] || eqS (hasS op) [65, 73] || eqS (hasS op) [73] || eqS (hasS op) [65])) && (hasB op 67 == eqS (hasS op) [65, 66, 67]) && (hasB op 73 == !(eqS (hasS op) [] || eqS (hasS op) [65, 66, 67] || eqS (hasS op) [65]))
theorem chkA_all : (List.range 23).all (fun n => chkA (n : Int)) = true := by decide +kernel
theorem chkR_all : (List.range 23).all (fun n => chkR (n : Int)) = true := by decide +kernel
theorem good_parts (op a b c m : Int) : goodF (op, a, b, c, m) = (isF op && regF a (hasB op 65) && regF b (hasB op 66) && regF c (hasB op 67) && (match hasB op 73 with | true => immF m && (decide (m ≥ 0) || !jmpF op) | false => m == 0)) := rfl
theorem good_sub {op a b c m : Int} (h : goodF (op, a, b, c, m) = true) : goodF (op, 1, b, c, m) = hasB op 65 ∧ goodF (op, a, 1, c, m) = hasB op 66 ∧ goodF (op, a, b, 1, m) = hasB op 67 ∧ goodF (op, a, b, c, 1) = hasB op 73 := by
  rw [good_parts] at h
  simp only [Bool.and_eq_true] at h
  obtain ⟨⟨⟨⟨h1, h2⟩, h3⟩, h4⟩, h5⟩ := h
  have r1 : ∀ x : Bool, regF 1 x = x := fun x => by cases x <;> rfl
  have i1 : immF 1 = true := rfl
  refine ⟨?_, ?_, ?_, ?_⟩ <;> rw [good_parts]
  · rw [h1, r1, h3, h4, h5]; simp
  · rw [h1, r1, h2, h4, h5]; simp
  · rw [h1, r1, h2, h3, h5]; simp
  · rw [h1, h2, h3, h4, i1]; cases hasB op 73 <;> simp
theorem or_nat {w : Int} (h : 0 ≤ w ∧ w ≤ 18446744073709551615) (d : Nat) (hd : d < 18446744073709551616) : ∃ n : Nat, n < 18446744073709551616 ∧ w = n ∧ bits .or .u64 w (d : Int) = ((n ||| d : Nat) : Int) := by
  obtain ⟨n, rfl⟩ := Int.eq_ofNat_of_zero_le h.1
  exact ⟨n, by omega, rfl, bits_or_u64_nat _ _ (by omega) hd⟩
theorem bits_rng (o : BinOp) (x y : Int) : 0 ≤ bits o .u64 x y ∧ bits o .u64 x y ≤ 18446744073709551615 := by
  unfold bits
  simp only [IntKind.wrap_u64]
  omega
theorem bit_ge (n k p : Nat) (q : Nat) (hq : q < p) : 2 ^ q ≤ (n ||| 2 ^ (k + q)) / 2 ^ k % 2 ^ p := by
  apply Nat.ge_two_pow_of_testBit
  rw [Nat.testBit_mod_two_pow, Nat.testBit_div_two_pow, Nat.testBit_or, Nat.add_comm q k, Nat.testBit_two_pow_self]
  simp [hq]
theorem not_good_of {op a b c m : Int} (h : op > 22 ∨ a > 7 ∨ b > 7 ∨ c > 7) : goodF (op, a, b, c, m) = false := by
  cases hg : goodF (op, a, b, c, m) with
  | false => rfl
  | true => have := good_bds hg; omega
theorem dec_or {w : Int} (h : 0 ≤ w ∧ w ≤ 18446744073709551615) : decG (bits .or .u64 w 2048) = false ∧ decG (bits .or .u64 w 32768) = false ∧ decG (bits .or .u64 w 524288) = false ∧ decG (bits .or .u64 w 23) = false := by
  refine ⟨?_, ?_, ?_, ?_⟩
  · obtain ⟨n, hn, rfl, e⟩ := or_nat h 2048 (by omega)
    have hb : 8 ≤ (n ||| 2048) / 256 % 16 := bit_ge n 8 4 3 (by omega)
    simp only [Int.cast_ofNat_Int] at e
    rw [e]
    have : goodF (decI ((n ||| 2048 : Nat) : Int)) = false := by
      unfold decI
      exact not_good_of (by omega)
    unfold decG
    rw [this, Bool.and_false]
  · obtain ⟨n, hn, rfl, e⟩ := or_nat h 32768 (by omega)
    have hb : 8 ≤ (n ||| 32768) / 4096 % 16 := bit_ge n 12 4 3 (by omega)
    simp only [Int.cast_ofNat_Int] at e
    rw [e]
    have : goodF (decI ((n ||| 32768 : Nat) : Int)) = false := by
      unfold decI
      exact not_good_of (by omega)
    unfold decG
    rw [this, Bool.and_false]
  · obtain ⟨n, hn, rfl, e⟩ := or_nat h 524288 (by omega)
    have hb : 8 ≤ (n ||| 524288) / 65536 % 16 := bit_ge n 16 4 3 (by omega)
    simp only [Int.cast_ofNat_Int] at e
    rw [e]
    have : goodF (decI ((n ||| 524288 : Nat) : Int)) = false := by
      unfold decI
      exact not_good_of (by omega)
    unfold decG
    rw [this, Bool.and_false]
  · obtain ⟨n, hn, rfl, e⟩ := or_nat h 23 (by omega)
    have h1 : (n ||| 23) % 256 = (n % 256) ||| (23 % 256) := Nat.or_mod_two_pow (n := 8)
    have h2 : 23 ≤ (n % 256) ||| (23 % 256) := Nat.right_le_or
    simp only [Int.cast_ofNat_Int] at e
    rw [e]
    have : goodF (decI ((n ||| 23 : Nat) : Int)) = false := by
      unfold decI
      exact not_good_of (by omega)
    unfold decG
    rw [this, Bool.and_false]
theorem dec_high {w x : Int} (h : 0 ≤ w ∧ w ≤ 18446744073709551615) (hx : 0 ≤ x) : decG (bits .or .u64 w (IntKind.u64.wrap (1 * 2 ^ min (IntKind.u64.wrap (20 + x.tmod 12)).toNat IntKind.u64.bits))) = false := by
  rw [Int.tmod_eq_emod_of_nonneg hx, IntKind.wrap_u64, IntKind.wrap_u64]
  obtain ⟨q, hq⟩ := Int.eq_ofNat_of_zero_le (show 0 ≤ x % 12 by omega)
  have hq12 : q < 12 := by omega
  have e1 : min ((20 + x % 12) % 18446744073709551616).toNat IntKind.u64.bits = 20 + q := by
    rw [hq]
    show min _ 64 = _
    omega
  rw [e1]
  have e2 : (1 * 2 ^ (20 + q) : Int) % 18446744073709551616 = ((2 ^ (20 + q) : Nat) : Int) := by
    have : (2 ^ (20 + q) : Nat) < 2 ^ 64 := Nat.pow_lt_pow_right (by omega) (by omega)
    have e3 : ((2 ^ (20 + q) : Nat) : Int) = 2 ^ (20 + q) := by simp
    rw [← e3]
    generalize (2 ^ (20 + q) : Nat) = N at this
    omega
  rw [e2]
  have hlt : (2 ^ (20 + q) : Nat) < 2 ^ 64 := Nat.pow_lt_pow_right (by omega) (by omega)
  obtain ⟨n, hn, rfl, e⟩ := or_nat h (2 ^ (20 + q)) (by omega)
  rw [e]
  have hb : 2 ^ q ≤ (n ||| 2 ^ (20 + q)) / 1048576 % 4096 := bit_ge n 20 12 q hq12
  have hp : 0 < 2 ^ q := Nat.two_pow_pos q
  generalize (n ||| 2 ^ (20 + q)) = N at hb ⊢
  unfold decG
  have : ¬ ((N : Int) / 1048576 % 4096 = 0) := by omega
  simp [this]
theorem v15 : Valid Try.prog 15 (.tot (tS [] [pB] fun _ => true)) := by
  refine tS_ok mixed Tbl_ok L10_ok Try.func15 call15 rfl rfl rfl ?_
  rintro ⟨⟩ hr z rfl
  refine ⟨noLoop, ?_⟩
  refine Eq.mp (by kernel_rfl : (((0 : Int) == (0 : Int) && encW ((1 : Int), (1 : Int), (0 : Int), (0 : Int), (-1 : Int)) == (18446744069414584577 : Int) && (11 : Int) == (11 : Int) && (0 : Int) == (0 : Int) && (11 : Int) == (11 : Int) && (hasS (8 : Int)).toList == (ByteArray.mk ((65 : UInt8) :: (66 : UInt8) :: (73 : UInt8) :: ([] : List UInt8)).toArray).toList && goodF ((22 : Int), (0 : Int), (0 : Int), (0 : Int), (0 : Int))) = true ∧ True) = _) ?_
  exact ⟨by decide +kernel, trivial⟩
abbrev L11 : List (Nat × Spec) := (15, .tot (tS [] [pB] fun _ => true)) :: L10
theorem L11_all : ∀ p ∈ L11, Valid Try.prog p.1 p.2 := vcons v15 L10_all
theorem L11_ok : ∀ f S, spL L11 f = some S → Valid Try.prog f S := spL_ok L11_all
theorem codes_law : ∀ x, rngTup [pN, pU, pI] x → ∃ lp, runF Tbl (spL L11) lp 0 Try.f3 (enVs [pN, pU, pI] x) ⟨0, []⟩ fun r' st' => fzR st' (mkB true) r' := by
  rintro ⟨⟨(op : Int), (a : Int), (b : Int), (c : Int), (m : Int)⟩, (u : Int), (o : Int)⟩ hr
  refine ⟨noLoop, ?_⟩
  refine Eq.mp (by kernel_rfl : ((goodF (op, a, b, c, m) == goodF (op, a, b, c, m) && (encF (op, a, b, c, m)).fst == (encF (op, a, b, c, m)).fst && (encF (op, a, b, c, m)).snd == (encF (op, a, b, c, m)).snd && ((decF u).fst.fst == (decF u).fst.fst && ((decF u).fst.snd.fst == (decF u).fst.snd.fst && ((decF u).fst.snd.snd.fst == (decF u).fst.snd.snd.fst && ((decF u).fst.snd.snd.snd.fst == (decF u).fst.snd.snd.snd.fst && (decF u).fst.snd.snd.snd.snd == (decF u).fst.snd.snd.snd.snd)))) && (decF u).snd == (decF u).snd && (hasS o).toList == (hasS o).toList && true) = true ∧ True) = _) ?_
  simp
theorem back_law : ∀ x, rngTup [pN, pU] x → ∃ lp, runF Tbl (spL L11) lp 0 Try.f4 (enVs [pN, pU] x) ⟨0, []⟩ fun r' st' => fzR st' (mkB true) r' := by
  rintro ⟨⟨(op : Int), (a : Int), (b : Int), (c : Int), (m : Int)⟩, (u : Int)⟩ hr
  refine ⟨noLoop, ?_⟩
  refine Eq.mp (by kernel_rfl : ((((encF (op, a, b, c, m)).snd == (0 : Int)) = true → (((decF (encF (op, a, b, c, m)).fst).snd != (0 : Int) || !((decF (encF (op, a, b, c, m)).fst).fst.fst == op && ((decF (encF (op, a, b, c, m)).fst).fst.snd.fst == a && ((decF (encF (op, a, b, c, m)).fst).fst.snd.snd.fst == b && ((decF (encF (op, a, b, c, m)).fst).fst.snd.snd.snd.fst == c && (decF (encF (op, a, b, c, m)).fst).fst.snd.snd.snd.snd == m))))) = true → false = true ∧ True) ∧ (((decF (encF (op, a, b, c, m)).fst).snd != (0 : Int) || !((decF (encF (op, a, b, c, m)).fst).fst.fst == op && ((decF (encF (op, a, b, c, m)).fst).fst.snd.fst == a && ((decF (encF (op, a, b, c, m)).fst).fst.snd.snd.fst == b && ((decF (encF (op, a, b, c, m)).fst).fst.snd.snd.snd.fst == c && (decF (encF (op, a, b, c, m)).fst).fst.snd.snd.snd.snd == m))))) = false → (((decF u).snd != (0 : Int)) = true → ((decF u).snd == (11 : Int) && ((decF u).fst.fst == (0 : Int) && ((decF u).fst.snd.fst == (0 : Int) && ((decF u).fst.snd.snd.fst == (0 : Int) && ((decF u).fst.snd.snd.snd.fst == (0 : Int) && (decF u).fst.snd.snd.snd.snd == (0 : Int))))) && true) = true ∧ True) ∧ (((decF u).snd != (0 : Int)) = false → ((encF ((decF u).fst.fst, (decF u).fst.snd.fst, (decF u).fst.snd.snd.fst, (decF u).fst.snd.snd.snd.fst, (decF u).fst.snd.snd.snd.snd)).snd == (0 : Int) && (encF ((decF u).fst.fst, (decF u).fst.snd.fst, (decF u).fst.snd.snd.fst, (decF u).fst.snd.snd.snd.fst, (decF u).fst.snd.snd.snd.snd)).fst == u && true) = true ∧ True))) ∧ (((encF (op, a, b, c, m)).snd == (0 : Int)) = false → (((decF u).snd != (0 : Int)) = true → ((decF u).snd == (11 : Int) && ((decF u).fst.fst == (0 : Int) && ((decF u).fst.snd.fst == (0 : Int) && ((decF u).fst.snd.snd.fst == (0 : Int) && ((decF u).fst.snd.snd.snd.fst == (0 : Int) && (decF u).fst.snd.snd.snd.snd == (0 : Int))))) && true) = true ∧ True) ∧ (((decF u).snd != (0 : Int)) = false → ((encF ((decF u).fst.fst, (decF u).fst.snd.fst, (decF u).fst.snd.snd.fst, (decF u).fst.snd.snd.snd.fst, (decF u).fst.snd.snd.snd.snd)).snd == (0 : Int) && (encF ((decF u).fst.fst, (decF u).fst.snd.fst, (decF u).fst.snd.snd.fst, (decF u).fst.snd.snd.snd.fst, (decF u).fst.snd.snd.snd.snd)).fst == u && true) = true ∧ True))) = _) ?_
  have hu : 0 ≤ u ∧ u ≤ 18446744073709551615 := hr.2
  have e0 : ∀ i : IN, (i.fst, i.snd.fst, i.snd.snd.fst, i.snd.snd.snd.fst, i.snd.snd.snd.snd) = i := fun _ => rfl
  rw [e0]
  have key : (((decF u).snd != 0) = true →
          ((decF u).snd == 11 && ((decF u).fst.fst == 0 && ((decF u).fst.snd.fst == 0 && ((decF u).fst.snd.snd.fst == 0 && ((decF u).fst.snd.snd.snd.fst == 0 && (decF u).fst.snd.snd.snd.snd == 0)))) && true) = true ∧ True) ∧
        (((decF u).snd != 0) = false → ((encF (decF u).fst).snd == 0 && (encF (decF u).fst).fst == u && true) = true ∧ True) := by
    cases hd : decG u with
    | false => rw [decF_f hd]; simp
    | true =>
      obtain ⟨h1, h2⟩ := dec_good hd
      have h3 := encW_decI hu
      rw [h2] at h3
      rw [decF_t hd]
      simp only
      rw [encF_t h1, h3]
      simp
  refine ⟨fun h => ⟨fun hb => ?_, fun _ => key⟩, fun _ => key⟩
  rw [enc_ok] at h
  rw [encF_t h] at hb
  simp only at hb
  rw [decF_encW h] at hb
  simp at hb
theorem apart_law : ∀ x, rngTup [pN, pN, pU8] x → ∃ lp, runF Tbl (spL L11) lp 0 Try.f5 (enVs [pN, pN, pU8] x) ⟨0, []⟩ fun r' st' => fzR st' (mkB true) r' := by
  rintro ⟨⟨(op : Int), (a : Int), (b : Int), (c : Int), (m : Int)⟩, ⟨(op' : Int), (a' : Int), (b' : Int), (c' : Int), (m' : Int)⟩, (x : Int)⟩ hr
  refine ⟨noLoop, ?_⟩
  refine Eq.mp (by kernel_rfl : ((((encF (op, a, b, c, m)).snd != (0 : Int) || (encF (op', a', b', c', m')).snd != (0 : Int)) = true → true = true ∧ True) ∧ (((encF (op, a, b, c, m)).snd != (0 : Int) || (encF (op', a', b', c', m')).snd != (0 : Int)) = false → (4 : Int) ≠ (0 : Int) ∧ ((x.tmod (4 : Int) == (0 : Int)) = true → (decide ((↑(hasS op).size : Int) > (0 : Int)) = true → ((0 : Int) ≤ (0 : Int) ∧ (0 : Int) < (↑(hasS op).size : Int)) ∧ ∀ (y : UInt8), (hasS op)[Int.toNat (0 : Int)]? = some y → (((encF (op, a, b, c, m)).fst == (encF (op', a', b', c', m')).fst) == (op == op' && (a == a' && (b == b' && (c == c' && m == m')))) && ((encF (op, (1 : Int), b, c, m)).snd == (11 : Int)) == !(↑y.toNat : Int) == (65 : Int) && true) = true ∧ True) ∧ (decide ((↑(hasS op).size : Int) > (0 : Int)) = false → (((encF (op, a, b, c, m)).fst == (encF (op', a', b', c', m')).fst) == (op == op' && (a == a' && (b == b' && (c == c' && m == m')))) && ((encF (op, (1 : Int), b, c, m)).snd == (11 : Int)) == true && true) = true ∧ True)) ∧ ((x.tmod (4 : Int) == (0 : Int)) = false → ((x.tmod (4 : Int) == (1 : Int)) = true → (((encF (op, a, b, c, m)).fst == (encF (op', a', b', c', m')).fst) == (op == op' && (a == a' && (b == b' && (c == c' && m == m')))) && ((encF (op, a, (1 : Int), c, m)).snd == (11 : Int)) == ((hasS op).toList == (ByteArray.mk ([] : List UInt8).toArray).toList || (hasS op).toList == (ByteArray.mk ((65 : UInt8) :: (73 : UInt8) :: ([] : List UInt8)).toArray).toList || (hasS op).toList == (ByteArray.mk ((73 : UInt8) :: ([] : List UInt8)).toArray).toList || (hasS op).toList == (ByteArray.mk ((65 : UInt8) :: ([] : List UInt8)).toArray).toList) && true) = true ∧ True) ∧ ((x.tmod (4 : Int) == (1 : Int)) = false → ((x.tmod (4 : Int) == (2 : Int)) = true → (((encF (op, a, b, c, m)).fst == (encF (op', a', b', c', m')).fst) == (op == op' && (a == a' && (b == b' && (c == c' && m == m')))) && ((encF (op, a, b, (1 : Int), m)).snd == (11 : Int)) == !(hasS op).toList == (ByteArray.mk ((65 : UInt8) :: (66 : UInt8) :: (67 : UInt8) :: ([] : List UInt8)).toArray).toList && true) = true ∧ True) ∧ ((x.tmod (4 : Int) == (2 : Int)) = false → ((x.tmod (4 : Int) == (3 : Int)) = true → (((encF (op, a, b, c, m)).fst == (encF (op', a', b', c', m')).fst) == (op == op' && (a == a' && (b == b' && (c == c' && m == m')))) && ((encF (op, a, b, c, (1 : Int))).snd == (11 : Int)) == ((hasS op).toList == (ByteArray.mk ([] : List UInt8).toArray).toList || (hasS op).toList == (ByteArray.mk ((65 : UInt8) :: (66 : UInt8) :: (67 : UInt8) :: ([] : List UInt8)).toArray).toList || (hasS op).toList == (ByteArray.mk ((65 : UInt8) :: ([] : List UInt8)).toArray).toList) && true) = true ∧ True) ∧ ((x.tmod (4 : Int) == (3 : Int)) = false → (((encF (op, a, b, c, m)).fst == (encF (op', a', b', c', m')).fst) == (op == op' && (a == a' && (b == b' && (c == c' && m == m')))) && ((encF (op, a, b, c, m)).snd == (11 : Int)) == false && true) = true ∧ True)))))) = _) ?_
  have hx : 0 ≤ x ∧ x ≤ 255 := hr.2.2
  rw [enc_ne, enc_ne]
  refine ⟨fun _ => ⟨rfl, trivial⟩, fun h => ?_⟩
  simp only [Bool.or_eq_false_iff, Bool.not_eq_false'] at h
  obtain ⟨h1, h2⟩ := h
  have hb := good_bds h1
  obtain ⟨s1, s2, s3, s4⟩ := good_sub h1
  simp only [enc_bad, s1, s2, s3, s4]
  have hA := ops_all chkA_all hb.1
  have hR := ops_all chkR_all hb.1
  have hi : ((encF (op, a, b, c, m)).fst == (encF (op', a', b', c', m')).fst) = (op == op' && (a == a' && (b == b' && (c == c' && m == m')))) := by
    rw [encF_t h1, encF_t h2, Bool.eq_iff_iff]
    simp only [beq_iff_eq, Bool.and_eq_true]
    constructor
    · intro he
      have := enc_inj h1 h2 he
      simpa using this
    · rintro ⟨rfl, rfl, rfl, rfl, rfl⟩; rfl
  rw [hi]
  unfold chkR eqS at hR
  simp only [Bool.and_eq_true, beq_iff_eq] at hR
  obtain ⟨⟨hR1, hR2⟩, hR3⟩ := hR
  rw [Int.tmod_eq_emod_of_nonneg hx.1]
  have hl : ∀ X Y : Bool, X = Y → ((op == op' && (a == a' && (b == b' && (c == c' && m == m')))) == (op == op' && (a == a' && (b == b' && (c == c' && m == m')))) && X == Y && true) = true := fun X Y e => by rw [e]; simp
  refine ⟨by omega, fun h0 => ⟨fun hs => ⟨⟨by omega, by simpa using hs⟩, fun y hy => ⟨hl _ _ ?_, trivial⟩⟩, fun hs => ⟨hl _ _ ?_, trivial⟩⟩, fun h0 => ⟨fun h1 => ⟨hl _ _ ?_, trivial⟩, fun h1 => ⟨fun h2 => ⟨hl _ _ ?_, trivial⟩, fun h2 => ⟨fun h3 => ⟨hl _ _ ?_, trivial⟩, fun h3 => ?_⟩⟩⟩⟩
  · unfold chkA at hA
    rw [show (hasS op)[0]? = some y from hy] at hA
    simp only [beq_iff_eq] at hA
    rw [hA]
  · unfold chkA at hA
    have : (hasS op)[0]? = none := by
      simp at hs
      simp [hs]
    rw [this] at hA
    exact hA
  · rw [hR1, Bool.not_not]
  · rw [hR2]
  · rw [hR3, Bool.not_not]
  · simp at h0 h1 h2 h3; omega
theorem bits_law : ∀ x, rngTup [pN, pU8] x → ∃ lp, runF Tbl (spL L11) lp 0 Try.f6 (enVs [pN, pU8] x) ⟨0, []⟩ fun r' st' => fzR st' (mkB true) r' := by
  rintro ⟨⟨(op : Int), (a : Int), (b : Int), (c : Int), (m : Int)⟩, (x : Int)⟩ hr
  refine ⟨noLoop, ?_⟩
  refine Eq.mp (by kernel_rfl : ((((encF (op, a, b, c, m)).snd != (0 : Int)) = true → ((encF (op, a, b, c, m)).fst == (0 : Int) && true) = true ∧ True) ∧ (((encF (op, a, b, c, m)).snd != (0 : Int)) = false → (12 : Int) ≠ (0 : Int) ∧ (0 : Int) ≤ IntKind.u64.wrap ((20 : Int) + x.tmod (12 : Int)) ∧ ((decF (bits BinOp.or IntKind.u64 (encF (op, a, b, c, m)).fst (IntKind.u64.wrap ((1 : Int) * (2 : Int) ^ min (IntKind.u64.wrap ((20 : Int) + x.tmod (12 : Int))).toNat IntKind.u64.bits)))).snd == (11 : Int) && (decF (bits BinOp.or IntKind.u64 (encF (op, a, b, c, m)).fst (2048 : Int))).snd == (11 : Int) && (decF (bits BinOp.or IntKind.u64 (encF (op, a, b, c, m)).fst (32768 : Int))).snd == (11 : Int) && (decF (bits BinOp.or IntKind.u64 (encF (op, a, b, c, m)).fst (524288 : Int))).snd == (11 : Int) && (decF (bits BinOp.or IntKind.u64 (bits BinOp.andNot IntKind.u64 (encF (op, a, b, c, m)).fst (255 : Int)) (23 : Int))).snd == (11 : Int) && true) = true ∧ True)) = _) ?_
  have hx : 0 ≤ x ∧ x ≤ 255 := hr.2
  rw [enc_ne]
  refine ⟨fun h => ?_, fun h => ⟨by omega, ?_, ?_, trivial⟩⟩
  · simp only [Bool.not_eq_true'] at h
    rw [encF_f h]; exact ⟨rfl, trivial⟩
  · rw [IntKind.wrap_u64]; omega
  · simp only [Bool.not_eq_false'] at h
    have hw : 0 ≤ (encF (op, a, b, c, m)).fst ∧ (encF (op, a, b, c, m)).fst ≤ 18446744073709551615 := by
      rw [encF_t h]; exact (encW_bds h).1
    have hh := dec_high hw hx.1
    have ho := dec_or hw
    have hn := dec_or (bits_rng .andNot (encF (op, a, b, c, m)).fst 255)
    rw [dec_bad, dec_bad, dec_bad, dec_bad, dec_bad, hh, ho.1, ho.2.1, ho.2.2.1, hn.2.2.2]
    rfl
theorem codes_walk {H : Type} {enc : TypeId × Value → H} {base : Nat} (W : World) (v0 v1 v2 : Value) (a0 : Arg enc Try.prog W base 23 v0) (a1 : Arg enc Try.prog W base 24 v1) (a2 : Arg enc Try.prog W base 3 v2) : Calls Try.prog 3 #[v0, v1, v2] W fun e w' => e = .returned (.bool true) ∧ Below W.heap.size W w' :=
  law_of (ps := [pN, pU, pI]) (ts := [23, 24, 3]) (vs := [v0, v1, v2]) mixed Tbl_ok L11_ok Try.func3 rfl (by kernel_rfl) ⟨a0, a1, a2, trivial⟩ codes_law
theorem back_walk {H : Type} {enc : TypeId × Value → H} {base : Nat} (W : World) (v0 v1 : Value) (a0 : Arg enc Try.prog W base 23 v0) (a1 : Arg enc Try.prog W base 24 v1) : Calls Try.prog 4 #[v0, v1] W fun e w' => e = .returned (.bool true) ∧ Below W.heap.size W w' :=
  law_of (ps := [pN, pU]) (ts := [23, 24]) (vs := [v0, v1]) mixed Tbl_ok L11_ok Try.func4 rfl (by kernel_rfl) ⟨a0, a1, trivial⟩ back_law
theorem apart_walk {H : Type} {enc : TypeId × Value → H} {base : Nat} (W : World) (v0 v1 v2 : Value) (a0 : Arg enc Try.prog W base 23 v0) (a1 : Arg enc Try.prog W base 23 v1) (a2 : Arg enc Try.prog W base 5 v2) : Calls Try.prog 5 #[v0, v1, v2] W fun e w' => e = .returned (.bool true) ∧ Below W.heap.size W w' :=
  law_of (ps := [pN, pN, pU8]) (ts := [23, 23, 5]) (vs := [v0, v1, v2]) mixed Tbl_ok L11_ok Try.func5 rfl (by kernel_rfl) ⟨a0, a1, a2, trivial⟩ apart_law
theorem bits_walk {H : Type} {enc : TypeId × Value → H} {base : Nat} (W : World) (v0 v1 : Value) (a0 : Arg enc Try.prog W base 23 v0) (a1 : Arg enc Try.prog W base 5 v1) : Calls Try.prog 6 #[v0, v1] W fun e w' => e = .returned (.bool true) ∧ Below W.heap.size W w' :=
  law_of (ps := [pN, pU8]) (ts := [23, 5]) (vs := [v0, v1]) mixed Tbl_ok L11_ok Try.func6 rfl (by kernel_rfl) ⟨a0, a1, trivial⟩ bits_law
end Go.Proofs.Ytilmljgjkcgkjaa.V
