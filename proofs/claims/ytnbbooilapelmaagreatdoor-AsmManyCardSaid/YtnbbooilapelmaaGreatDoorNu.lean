import Derived.Test.YtnbbooilapelmaaGreatDoorProg
import Derived.Lib.ParseIntB
import Derived.Lib.ParseIntBTie
import Derived.Lib.ItoaLen
/-
  Numbers as words, in plain Lean: what is read back, two ways of reading.
-/
namespace Go.Proofs.YtnbbooilapelmaaGreatDoor
open Go.Lib
def decB (n : Int) : ByteArray := ⟨(itoa n).toArray⟩
/-- strconv's way: the number, and whether it is written so. -/
def numB (w : ByteArray) : Int × Bool := match parseIntB 64 w.data.toList with
  | .ok v => (v, (decB v).data.toList == w.data.toList)
  | .range => (intSat 64 w.data.toList, false)
  | _ => (0, false)
theorem decB_list (n : Int) : (decB n).data.toList = itoa n := by simp [decB]
theorem ba_ext {a b : ByteArray} (h : a.data.toList = b.data.toList) : a = b := by
  cases a; cases b; simp only [ByteArray.mk.injEq]; exact Array.ext' h
theorem dig_toNat {d : Nat} (h : d < 10) : (UInt8.ofNat (48 + d)).toNat = 48 + d := by
  simp only [UInt8.toNat_ofNat']
  omega
/-- The digits of a number, read on. -/
theorem parse_dec : ∀ (u acc : Nat) (r : List UInt8), acc * 10 ^ nDigits u + u < 18446744073709551616 → parseUint10 acc (decDigits u ++ r) = parseUint10 (acc * 10 ^ nDigits u + u) r := by
  intro u
  induction u using Nat.strongRecOn with
  | _ u ih =>
    intro acc r h
    by_cases hu : u < 10
    · rw [decDigits, dif_pos hu, nDigits_small hu] at *
      rw [List.singleton_append, parseUint10, dig_toNat hu, if_pos (by omega), if_neg (by omega), if_neg (by omega)]
      congr 1
      omega
    · rw [decDigits, dif_neg hu, List.append_assoc, List.singleton_append]
      rw [nDigits_big hu, Nat.pow_succ] at h ⊢
      have e : acc * (10 ^ nDigits (u / 10) * 10) = acc * 10 ^ nDigits (u / 10) * 10 := by rw [Nat.mul_assoc]
      rw [e] at h ⊢
      have h2 : acc * 10 ^ nDigits (u / 10) + u / 10 < 18446744073709551616 := by omega
      rw [ih (u / 10) (by omega) acc _ h2]
      generalize acc * 10 ^ nDigits (u / 10) = A at *
      have h3 : u % 10 < 10 := Nat.mod_lt _ (by decide)
      rw [parseUint10, dig_toNat h3, if_pos (by omega), if_neg (by omega), if_neg (by omega)]
      congr 1
      omega
theorem parse_dec0 {u : Nat} (h : u < 18446744073709551616) : parseUintB 64 (decDigits u) = .ok u := by
  rw [parseUintB_64]
  have hne : decDigits u ≠ [] := fun e => by
    have := decDigits_length u
    rw [e] at this
    have := nDigits_pos u
    simp at *
    omega
  rw [parseMag, if_neg hne]
  have := parse_dec u 0 [] (by omega)
  rw [List.append_nil] at this
  rw [this]
  simp [parseUint10]
theorem digs_all : ∀ (u : Nat), ∀ c ∈ decDigits u, 48 ≤ c.toNat ∧ c.toNat ≤ 57 := by
  intro u
  induction u using Nat.strongRecOn with
  | _ u ih =>
    intro c hc
    by_cases hu : u < 10
    · rw [decDigits, dif_pos hu] at hc
      obtain rfl := List.mem_singleton.1 hc
      rw [dig_toNat hu]; omega
    · rw [decDigits, dif_neg hu] at hc
      rcases List.mem_append.1 hc with hc | hc
      · exact ih (u / 10) (by omega) c hc
      · obtain rfl := List.mem_singleton.1 hc
        have : u % 10 < 10 := Nat.mod_lt _ (by decide)
        rw [dig_toNat this]; omega
theorem digs_ne (u : Nat) : decDigits u ≠ [] := fun e => by
  have h1 := decDigits_length u
  have h2 := nDigits_pos u
  rw [e] at h1
  simp only [List.length_nil] at h1
  omega
theorem parse_itoa {n : Int} (h0 : -9223372036854775808 ≤ n) (h1 : n ≤ 9223372036854775807) : parseIntB 64 (itoa n) = .ok n := by
  rcases Int.lt_or_le n 0 with hn | hn
  · obtain ⟨u, rfl⟩ : ∃ u : Nat, n = -(u : Int) := ⟨n.natAbs, by omega⟩
    rw [itoa_neg u (by omega)]
    have h45 : (45 : UInt8).toNat = 45 := rfl
    simp only [parseIntB, h45, or_true, if_true]
    rw [parse_dec0 (by omega)]
    simp only
    rw [if_neg (by simp), if_neg (by omega)]
  · obtain ⟨u, rfl⟩ : ∃ u : Nat, n = u := ⟨n.toNat, by omega⟩
    rw [itoa_nonneg]
    cases hl : decDigits u with
    | nil => exact absurd hl (digs_ne u)
    | cons c r =>
      have hc := digs_all u c (by rw [hl]; simp)
      simp only [parseIntB]
      rw [if_neg (show ¬ (c.toNat = 43 ∨ c.toNat = 45) by omega), ← hl, parse_dec0 (by omega)]
      simp only
      rw [if_neg (by omega), if_neg (by omega), if_neg (by omega)]
theorem numB_dec {n : Int} (h0 : -9223372036854775808 ≤ n) (h1 : n ≤ 9223372036854775807) : numB (decB n) = (n, true) := by
  unfold numB
  rw [decB_list, parse_itoa h0 h1]
  simp [decB_list]
theorem numB_bd (w : ByteArray) : -9223372036854775808 ≤ (numB w).1 ∧ (numB w).1 ≤ 9223372036854775807 := by
  unfold numB
  split
  · rename_i v h
    rw [parseIntB_64] at h
    exact atoiAll_bounds h
  · rw [intSat_64]; exact atoiSat_bounds _
  · decide
theorem numB_ok {w : ByteArray} (h : (numB w).2 = true) : w = decB (numB w).1 := by
  have : ∀ v, (decB v).data.toList == w.data.toList → w = decB v := fun v h => ba_ext (eq_of_beq h).symm
  unfold numB at *
  split
  · rename_i v hv
    rw [hv] at h
    exact this v h
  · rename_i hv; rw [hv] at h; cases h
  · rename_i h1 h2
    split at h
    · rename_i v hv; exact absurd hv (h1 v)
    · cases h
    · cases h
/-- The reference's way. -/
def readL (u : Nat) : List UInt8 → Option Nat
  | [] => some u
  | c :: r => if 48 ≤ c.toNat ∧ c.toNat ≤ 57 ∧ u ≤ 922337203685477580 then readL (u * 10 + (c.toNat - 48)) r else none
def negB (l : List UInt8) : Bool := match l with | c :: _ => c.toNat == 45 | [] => false
def magL (l : List UInt8) : List UInt8 := if negB l = true then l.tail else l
def readE (l : List UInt8) : Option Int := if magL l = [] ∨ 20 < l.length then none else match readL 0 (magL l) with
  | none => none
  | some u => if 9223372036854775808 < u ∨ (negB l = false ∧ u = 9223372036854775808) then none else some (if negB l = true then -(u : Int) else u)
def readB (w : ByteArray) : Int × Bool := match readE w.data.toList with
  | none => (0, false)
  | some n => (n, (decB n).data.toList == w.data.toList)
theorem readL_dec : ∀ (u acc : Nat) (r : List UInt8), acc * 10 ^ nDigits u + u ≤ 9223372036854775808 → readL acc (decDigits u ++ r) = readL (acc * 10 ^ nDigits u + u) r := by
  intro u
  induction u using Nat.strongRecOn with
  | _ u ih =>
    intro acc r h
    by_cases hu : u < 10
    · rw [decDigits, dif_pos hu, nDigits_small hu] at *
      rw [List.singleton_append, readL, dig_toNat hu, if_pos (by omega)]
      congr 1
      omega
    · rw [decDigits, dif_neg hu, List.append_assoc, List.singleton_append]
      rw [nDigits_big hu, Nat.pow_succ] at h ⊢
      have e : acc * (10 ^ nDigits (u / 10) * 10) = acc * 10 ^ nDigits (u / 10) * 10 := by rw [Nat.mul_assoc]
      rw [e] at h ⊢
      have h2 : acc * 10 ^ nDigits (u / 10) + u / 10 ≤ 9223372036854775808 := by omega
      rw [ih (u / 10) (by omega) acc _ h2]
      generalize acc * 10 ^ nDigits (u / 10) = A at *
      have h3 : u % 10 < 10 := Nat.mod_lt _ (by decide)
      rw [readL, dig_toNat h3, if_pos (by omega)]
      congr 1
      omega
theorem nDigits_le : ∀ {k u : Nat}, u < 10 ^ (k + 1) → nDigits u ≤ k + 1
  | 0, u, h => by rw [nDigits_small (by simpa using h)]; omega
  | k + 1, u, h => by
    by_cases hu : u < 10
    · rw [nDigits_small hu]; omega
    · rw [Nat.pow_succ] at h
      have := nDigits_le (k := k) (u := u / 10) (by omega)
      rw [nDigits_big hu]; omega
theorem read_itoa {n : Int} (h0 : -9223372036854775808 ≤ n) (h1 : n ≤ 9223372036854775807) : readE (itoa n) = some n := by
  rcases Int.lt_or_le n 0 with hn | hn
  · obtain ⟨u, rfl⟩ : ∃ u : Nat, n = -(u : Int) := ⟨n.natAbs, by omega⟩
    rw [itoa_neg u (by omega)]
    have hb : negB (45 :: decDigits u) = true := rfl
    have hm : magL (45 :: decDigits u) = decDigits u := by rw [magL, if_pos hb]; rfl
    have hl : (decDigits u).length ≤ 19 := by
      rw [decDigits_length]
      exact nDigits_le (k := 18) (by omega)
    rw [readE, hm, hb, if_neg (by simp only [digs_ne, false_or, List.length_cons]; omega)]
    have := readL_dec u 0 [] (by omega)
    rw [List.append_nil] at this
    rw [this]
    simp only [readL]
    rw [if_neg (by simp; omega)]
    simp
  · obtain ⟨u, rfl⟩ : ∃ u : Nat, n = u := ⟨n.toNat, by omega⟩
    rw [itoa_nonneg]
    have hb : negB (decDigits u) = false := by
      cases hl : decDigits u with
      | nil => rfl
      | cons c r =>
        have hc := digs_all u c (by rw [hl]; simp)
        simp only [negB, beq_eq_false_iff_ne, ne_eq]
        omega
    have hm : magL (decDigits u) = decDigits u := by rw [magL, hb]; simp
    have hl : (decDigits u).length ≤ 20 := by
      rw [decDigits_length]
      exact nDigits_le20 u (by omega)
    rw [readE, hm, hb, if_neg (by simp only [digs_ne, false_or]; omega)]
    have := readL_dec u 0 [] (by omega)
    rw [List.append_nil] at this
    rw [this]
    simp only [readL]
    rw [if_neg (by simp; omega)]
    simp
theorem readE_bd {l : List UInt8} {n : Int} (h : readE l = some n) : -9223372036854775808 ≤ n ∧ n ≤ 9223372036854775807 := by
  unfold readE at h
  split at h
  · cases h
  · split at h
    · cases h
    · split at h
      · cases h
      · rename_i hu
        cases h
        simp only [not_or, not_and, Nat.not_lt] at hu
        cases hb : negB l with
        | true => simp only [if_true]; omega
        | false => have := hu.2 hb; simp; omega
/-- Both ways read the same numbers. -/
theorem read_num (w : ByteArray) : (readB w).2 = (numB w).2 ∧ ((numB w).2 = true → (readB w).1 = (numB w).1) := by
  cases hn : (numB w).2 with
  | true =>
    have e := numB_ok hn
    have hb := numB_bd w
    have hr := read_itoa hb.1 hb.2
    have : readB w = ((numB w).1, true) := by
      rw [readB]
      have : readE w.data.toList = some (numB w).1 := by
        conv => lhs; rw [e]
        rw [decB_list]; exact hr
      rw [this]
      simp only [Prod.mk.injEq, true_and, beq_iff_eq]
      rw [← e]
    rw [this]; simp
  | false =>
    refine ⟨?_, fun h => by cases h⟩
    cases hr : readE w.data.toList with
    | none => rw [readB, hr]
    | some n =>
      rw [readB, hr]
      simp only
      cases hq : ((decB n).data.toList == w.data.toList) with
      | false => rfl
      | true =>
        have e : w = decB n := ba_ext (eq_of_beq hq).symm
        have hb := readE_bd hr
        rw [e, numB_dec hb.1 hb.2] at hn
        cases hn
end Go.Proofs.YtnbbooilapelmaaGreatDoor
