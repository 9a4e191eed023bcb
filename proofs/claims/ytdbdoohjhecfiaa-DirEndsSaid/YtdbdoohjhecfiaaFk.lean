/-
  Masks of cores, bit by bit.
-/
import Derived.KernelRfl
import Derived.Test.YtdbdoohjhecfiaaFd
namespace Go.Proofs.Ytdbdoohjhecfiaa.V
open Go.RowKit Go.Proofs.Ytdbdoohjhecfiaa
set_option linter.unusedSimpArgs false
abbrev U (m : Int) : Prop := 0 ≤ m ∧ m ≤ 255
def tb (m : Int) (k : Nat) : Bool := (BitVec.ofInt 8 m).getLsbD k
theorem back8 (r : BitVec 8) : BitVec.ofInt 8 (IntKind.u8.wrap (r.toNat : Int)) = r := by
  have h := r.isLt
  have e : IntKind.u8.wrap (r.toNat : Int) = (r.toNat : Int) := by rw [IntKind.wrap_u8]; omega
  rw [e, BitVec.ofInt_natCast, BitVec.ofNat_toNat, BitVec.setWidth_eq]
theorem tb_and (a b : Int) (k : Nat) : tb (andI a b) k = (tb a k && tb b k) := by
  have : BitVec.ofInt 8 (andI a b) = BitVec.ofInt 8 a &&& BitVec.ofInt 8 b := back8 _
  simp only [tb, this, BitVec.getLsbD_and]
theorem tb_or (a b : Int) (k : Nat) : tb (orI a b) k = (tb a k || tb b k) := by
  have : BitVec.ofInt 8 (orI a b) = BitVec.ofInt 8 a ||| BitVec.ofInt 8 b := back8 _
  simp only [tb, this, BitVec.getLsbD_or]
theorem tb_an (a b : Int) (k : Nat) (hk : k < 8) : tb (anI a b) k = (tb a k && !tb b k) := by
  have : BitVec.ofInt 8 (anI a b) = BitVec.ofInt 8 a &&& ~~~BitVec.ofInt 8 b := back8 _
  simp only [tb, this, BitVec.getLsbD_and, BitVec.getLsbD_not, hk, decide_true, Bool.true_and]
theorem tb_zero (k : Nat) : tb 0 k = false := by simp [tb]
theorem U_and (a b : Int) : U (andI a b) := inR_bits .and .u8 a b
theorem U_or (a b : Int) : U (orI a b) := inR_bits .or .u8 a b
theorem U_an (a b : Int) : U (anI a b) := inR_bits .andNot .u8 a b
theorem U_bit (c : Int) : U (bitF c) := by
  unfold bitF U
  split
  · rename_i h
    obtain ⟨n, rfl⟩ : ∃ n : Nat, c = n := ⟨c.toNat, by omega⟩
    have : n ≤ 7 := by omega
    simp only [Int.toNat_natCast]
    match n, this with
    | 0, _ | 1, _ | 2, _ | 3, _ | 4, _ | 5, _ | 6, _ | 7, _ => decide
  · omega
theorem bit_out {c : Int} (h : ¬ (0 ≤ c ∧ c ≤ 7)) : bitF c = 0 := if_neg h
theorem tb_bit_all : ∀ n k : Fin 8, tb (bitF (n.val : Int)) k.val = decide (n.val = k.val) := by decide
theorem tb_bit (c : Int) (k : Nat) (hk : k < 8) : tb (bitF c) k = decide (c = k) := by
  by_cases h : 0 ≤ c ∧ c ≤ 7
  · obtain ⟨n, rfl⟩ : ∃ n : Nat, c = n := ⟨c.toNat, by omega⟩
    have := tb_bit_all ⟨n, by omega⟩ ⟨k, hk⟩
    simp only at this
    rw [this]
    simp
    omega
  · rw [bit_out h, tb_zero]
    symm
    simp
    omega
theorem u_ext {a b : Int} (ha : U a) (hb : U b) (h : ∀ k, k < 8 → tb a k = tb b k) : a = b := by
  obtain ⟨n, rfl⟩ : ∃ n : Nat, a = n := ⟨a.toNat, by omega⟩
  obtain ⟨m, rfl⟩ : ∃ m : Nat, b = m := ⟨b.toNat, by omega⟩
  have : BitVec.ofInt 8 (n : Int) = BitVec.ofInt 8 (m : Int) := BitVec.eq_of_getLsbD_eq fun k hk => h k hk
  rw [BitVec.ofInt_natCast, BitVec.ofInt_natCast] at this
  have := congrArg BitVec.toNat this
  rw [BitVec.toNat_ofNat, BitVec.toNat_ofNat, Nat.mod_eq_of_lt (by omega), Nat.mod_eq_of_lt (by omega)] at this
  rw [this]
theorem u_zero {a : Int} (ha : U a) : a = 0 ↔ ∀ k, k < 8 → tb a k = false :=
  ⟨fun h k _ => by rw [h, tb_zero], fun h => u_ext ha (by decide) fun k hk => by rw [h k hk, tb_zero]⟩
theorem u_nz {a : Int} (ha : U a) : a ≠ 0 ↔ ∃ k, k < 8 ∧ tb a k = true := by
  rw [ne_eq, u_zero ha]
  simp
theorem has_tb (m c : Int) : hasF m c = true ↔ ∃ k : Nat, k < 8 ∧ c = k ∧ tb m k = true := by
  unfold hasF
  rw [bne_iff_ne, u_nz (U_and _ _)]
  constructor
  · rintro ⟨k, hk, h⟩
    rw [tb_and, tb_bit c k hk, Bool.and_eq_true, decide_eq_true_eq] at h
    exact ⟨k, hk, h.2, h.1⟩
  · rintro ⟨k, hk, rfl, h⟩
    exact ⟨k, hk, by rw [tb_and, tb_bit _ k hk, h]; simp⟩
theorem mem_cores (m c : Int) : c ∈ coresF m ↔ ∃ k : Nat, k < 8 ∧ c = k ∧ tb m k = true := by
  unfold coresF
  rw [List.mem_filter, has_tb]
  simp only [List.mem_map, List.mem_range]
  constructor
  · exact fun h => h.2
  · rintro ⟨k, hk, rfl, h⟩
    exact ⟨⟨k, hk, rfl⟩, k, hk, rfl, h⟩
theorem cores_nodup (m : Int) : (coresF m).Nodup := by
  unfold coresF
  refine List.Nodup.sublist List.filter_sublist ?_
  decide
def sub8 (a b : Int) : Prop := ∀ k, k < 8 → tb a k = true → tb b k = true
theorem an_zero (a b : Int) : anI a b = 0 ↔ sub8 a b := by
  rw [u_zero (U_an _ _)]
  unfold sub8
  constructor
  · intro h k hk ha
    have := h k hk
    rw [tb_an a b k hk, ha] at this
    simpa using this
  · intro h k hk
    rw [tb_an a b k hk]
    cases ha : tb a k with
    | false => rfl
    | true => rw [h k hk ha]; rfl
theorem and_bit_nz (m c : Int) : andI m (bitF c) ≠ 0 ↔ ∃ k : Nat, k < 8 ∧ c = k ∧ tb m k = true := by
  rw [← has_tb]; unfold hasF; rw [bne_iff_ne]
/-- A good entry. -/
structure GoodP (e : E) : Prop where
  o1 : -1 ≤ e.owner
  o2 : e.owner ≤ 7
  os : 0 ≤ e.owner → e.share = 0
  nh : e.here = false → e.dirty = false ∧ e.owner < 0 ∧ e.share = 0 ∧ e.data = Z8 ∧ e.busy = 0
  ws : ∀ k, k < 8 → tb e.wait k = true → tb e.share k = true ∨ e.owner = k
  b0 : e.busy = 0 → e.by_ = 0 ∧ e.wait = 0
  b1 : e.busy = 0 ∨ e.busy = 1 ∨ e.busy = 2 ∨ e.busy = 4 ∨ e.busy = 5
  by_ : e.busy ≠ 0 → 0 ≤ e.by_ ∧ e.by_ ≤ 7
  w : e.busy = 1 ∨ e.busy = 2 → e.wait ≠ 0
theorem good_iff (e : E) : goodF e = true ↔ GoodP e := by
  unfold goodF
  simp only [Bool.and_eq_true, Bool.or_eq_true, Bool.not_eq_true', decide_eq_true_eq, decide_eq_false_iff_not, beq_iff_eq, an_zero, sub8, tb_or, coreF]
  constructor
  · rintro ⟨⟨h1, h2⟩, h3, h4, h5, h6⟩
    have hws : ∀ k, k < 8 → tb e.wait k = true → tb e.share k = true ∨ e.owner = k := fun k hk hw => by
      have := h5 k hk hw
      rw [tb_bit _ k hk, decide_eq_true_eq] at this
      exact this
    by_cases b0 : e.busy = 0
    · rw [if_pos b0] at h6
      simp only [Bool.and_eq_true, beq_iff_eq] at h6
      refine ⟨h1, h2, fun h => h3.resolve_left (by omega), fun h => ?_, hws, fun _ => h6, .inl b0, fun h => absurd b0 h, fun h => by omega⟩
      have := h4.resolve_left (by simp [h])
      exact ⟨this.1, by omega, this.2.2.1, this.2.2.2.1, b0⟩
    · rw [if_neg b0] at h6
      split at h6
      · rename_i hb
        simp only [Bool.and_eq_true, decide_eq_true_eq, bne_iff_ne] at h6
        refine ⟨h1, h2, fun h => h3.resolve_left (by omega), fun h => ?_, hws, fun h => absurd h b0, by omega, fun _ => h6.1, fun _ => h6.2⟩
        exact absurd (h4.resolve_left (by simp [h])).2.2.2.2 b0
      · split at h6
        · simp only [Bool.and_eq_true, decide_eq_true_eq] at h6
          refine ⟨h1, h2, fun h => h3.resolve_left (by omega), fun h => ?_, hws, fun h => absurd h b0, by omega, fun _ => h6, fun h => by omega⟩
          exact absurd (h4.resolve_left (by simp [h])).2.2.2.2 b0
        · cases h6
  · rintro ⟨h1, h2, h3, h4, h5, h6, h7, h8, h9⟩
    refine ⟨⟨h1, h2⟩, ?_, ?_, fun k hk hw => by rw [tb_bit _ k hk, decide_eq_true_eq]; exact h5 k hk hw, ?_⟩
    · by_cases h : 0 ≤ e.owner
      · exact .inr (h3 h)
      · exact .inl (by omega)
    · cases hh : e.here with
      | true => exact .inl rfl
      | false => obtain ⟨a, b, c, d, f⟩ := h4 hh; exact .inr ⟨a, by omega, c, d, f⟩
    · by_cases b0 : e.busy = 0
      · rw [if_pos b0]; simp [h6 b0]
      · rw [if_neg b0]
        have := h8 b0
        split
        · rename_i hb; simp [h9 hb, this]
        · rw [if_pos (by omega)]; simp [this]
end Go.Proofs.Ytdbdoohjhecfiaa.V
