/-
  A symbolic run of a function's text: numbers, structs.
-/
import Derived.Test.YtnbbooilapelmaaGreatDoorKitVc
set_option linter.unusedVariables false
set_option linter.unusedSimpArgs false
namespace Go.Proofs.YtnbbooilapelmaaGreatDoor.V
open Go.RowKit Go.Proofs.YtnbbooilapelmaaGreatDoor
def eqK : IntKind → IntKind → Bool
  | .i8, .i8 | .i16, .i16 | .i32, .i32 | .i64, .i64 | .u8, .u8 | .u16, .u16 | .u32, .u32 | .u64, .u64 => true
  | _, _ => false
theorem eqK_eq {a b : IntKind} (h : eqK a b = true) : a = b := by cases a <;> cases b <;> first | rfl | cases h
/-- Does each number of the one kind lie in the other? -/
def subR : IntKind → IntKind → Bool
  | .i64, .i64 | .i32, .i64 | .u8, .i64 | .u16, .i64 | .u32, .i64 | .i8, .i64 | .i16, .i64 | .u64, .u64 | .u32, .u64 | .u8, .u64 | .u16, .u64 | .u8, .u8 | .u32, .u32 | .u8, .u32 | .u16, .u16 | .i32, .i32 | .u8, .i32 => true
  | _, _ => false
theorem subR_ok {k l : IntKind} {a : Int} (h : subR k l = true) (ha : inR k a) : inR l a := by
  cases k <;> cases l <;> simp [subR] at h <;> simp only [inR] at * <;> omega
theorem inR_bits (op : BinOp) (k : IntKind) (x y : Int) : inR k (bits op k x y) := inR_wf.2 (wf_bits op k x y)
theorem inR_tmod {k : IntKind} {a b : Int} (h : inR k a) : inR k (a.tmod b) := by
  have h1 : (a.tmod b).natAbs ≤ a.natAbs := by rw [Int.natAbs_tmod]; exact Nat.mod_le _ _
  by_cases ha : 0 ≤ a
  · have h2 := Int.tmod_nonneg b ha
    cases k <;> simp only [inR] at * <;> omega
  · have h2 : a.tmod b ≤ 0 := by
      have := Int.tmod_nonneg b (show 0 ≤ -a by omega)
      rw [Int.neg_tmod] at this
      omega
    cases k <;> simp only [inR] at * <;> omega
theorem inR_fdiv {k : IntKind} {a : Int} (n : Nat) (h : inR k a) : inR k (a.fdiv (2 ^ n)) := by
  have hp : (0 : Int) < 2 ^ n := Int.pow_pos (by omega)
  rw [Int.fdiv_eq_ediv_of_nonneg _ (by omega)]
  by_cases ha : 0 ≤ a
  · have h1 := Int.ediv_nonneg ha (Int.le_of_lt hp)
    have h2 := Int.ediv_le_self (2 ^ n) ha
    cases k <;> simp only [inR] at * <;> omega
  · have h1 : a / 2 ^ n < 0 := Int.ediv_neg_of_neg_of_pos (by omega) hp
    have h2 : a ≤ a / 2 ^ n := by
      rw [Int.le_ediv_iff_mul_le hp]
      have := Int.mul_le_mul_of_nonneg_left (show (1 : Int) ≤ 2 ^ n by omega) (show 0 ≤ -a by omega)
      simp only [Int.neg_mul, Int.mul_one] at this
      omega
    cases k <;> simp only [inR] at * <;> omega
def mkI (k : IntKind) (a : Int) : Rs := .v (.one (.val (.int k a)))
def mkB (b : Bool) : Rs := .v (.one (.val (.bool b)))
def isLit : CV → Bool | .il .. => true | .bl _ => true | _ => false
/-- A number that is known. -/
def forceI (k : IntKind) : Int → (Rs → Prop) → Prop
  | .ofNat n, K => K (.v (.one (.il k (.ofNat n))))
  | .negSucc n, K => K (.v (.one (.il k (.negSucc n))))
def forceB : Bool → (Rs → Prop) → Prop
  | true, K => K (.v (.one (.bl true)))
  | false, K => K (.v (.one (.bl false)))
theorem forceI_ok {k : IntKind} {a : Int} {K : Rs → Prop} (h : forceI k a K) : K (.v (.one (.il k a))) := by cases a <;> exact h
theorem forceB_ok {b : Bool} {K : Rs → Prop} (h : forceB b K) : K (.v (.one (.bl b))) := by cases b <;> exact h
/-- The result of arithmetic: known, or without overflow (int), or turned round. -/
def arith (lit : Bool) (k : IntKind) (r : Int) (K : Rs → Prop) : Prop :=
  match lit with
  | true => forceI k (k.wrap r) K
  | false => (match k with
    | .i64 => inR .i64 r ∧ K (mkI .i64 r)
    | k => K (mkI k (k.wrap r)))
def cmpB (lit : Bool) (r : Bool) (K : Rs → Prop) : Prop :=
  match lit with
  | true => forceB r K
  | false => K (mkB r)
section
variable {β : Nat → Option Value} {F : Nat → Prop} {w : World}
theorem arith_ok {lit : Bool} {k : IntKind} {r : Int} {K : Rs → Prop} (h : arith lit k r K) : ∃ s, K s ∧ DnR β F w s (.int k (k.wrap r)) := by
  cases lit with
  | true => exact ⟨_, forceI_ok h, rfl, inR_wrap k r⟩
  | false =>
    unfold arith at h
    split at h
    · rename_i e; cases e
    · split at h
      · exact ⟨_, h.2, by rw [wrap_of h.1], h.1⟩
      · exact ⟨_, h, rfl, inR_wrap _ r⟩
theorem cmpB_ok {lit : Bool} {r : Bool} {K : Rs → Prop} (h : cmpB lit r K) : ∃ s, K s ∧ DnR β F w s (.bool r) := by
  cases lit with
  | true => exact ⟨_, forceB_ok h, rfl⟩
  | false => exact ⟨_, h, rfl, trivial⟩
end
def opInt (lit : Bool) (op : BinOp) (k : IntKind) (a b : Int) (K : Rs → Prop) : Prop :=
  match op with
  | .add => arith lit k (a + b) K
  | .sub => arith lit k (a - b) K
  | .mul => arith lit k (a * b) K
  | .quo => b ≠ 0 ∧ arith lit k (a.tdiv b) K
  | .rem => b ≠ 0 ∧ (match lit with | true => forceI k (a.tmod b) K | false => K (mkI k (a.tmod b)))
  | .and | .or | .xor | .andNot => (match lit with | true => forceI k (bits op k a b) K | false => K (mkI k (bits op k a b)))
  | .eql => cmpB lit (a == b) K
  | .neq => cmpB lit (a != b) K
  | .lss => cmpB lit (decide (a < b)) K
  | .leq => cmpB lit (decide (a ≤ b)) K
  | .gtr => cmpB lit (decide (a > b)) K
  | .geq => cmpB lit (decide (a ≥ b)) K
  | _ => False
def opShl (lit litb : Bool) (k : IntKind) (a b : Int) (K : Rs → Prop) : Prop :=
  0 ≤ b ∧ (match litb with
    | true => pow2K (min b.toNat k.bits) fun p => (match lit with | true => forceI k (k.wrap (a * p)) K | false => K (mkI k (k.wrap (a * p))))
    | false => K (mkI k (k.wrap (a * 2 ^ (min b.toNat k.bits)))))
def opShr (lit litb : Bool) (k : IntKind) (a b : Int) (K : Rs → Prop) : Prop :=
  0 ≤ b ∧ (match litb with
    | true => pow2K (min b.toNat k.bits) fun p => (match lit with | true => forceI k (a.fdiv p) K | false => K (mkI k (a.fdiv p)))
    | false => K (mkI k (a.fdiv (2 ^ (min b.toNat k.bits)))))
section
variable {P : Program} {β : Nat → Option Value} {F : Nat → Prop} {w : World}
theorem intV_dn {c : CV} {k : IntKind} {a : Int} (h : intV c = some (k, a)) {u : Value} (hd : Dn β F w c u) : u = .int k a ∧ inR k a := by
  unfold intV at h
  split at h <;> cases h
  · obtain ⟨rfl, h⟩ := hd; exact ⟨rfl, h⟩
  · exact hd
theorem boolV_dn {c : CV} {b : Bool} (h : boolV c = some b) {u : Value} (hd : Dn β F w c u) : u = .bool b := by
  unfold boolV at h
  split at h <;> cases h
  · exact hd.1
  · exact hd
theorem strV_dn {c : CV} {b : ByteArray} (h : strV c = some b) {u : Value} (hd : Dn β F w c u) : u = .string b := by
  unfold strV at h
  split at h <;> cases h
  exact hd.1
theorem rem_ok {lit : Bool} {k : IntKind} {r : Int} {K : Rs → Prop} (hr : inR k r) (h : (match lit with | true => forceI k r K | false => K (mkI k r))) : ∃ s, K s ∧ DnR β F w s (.int k r) := by
  cases lit with
  | true => exact ⟨_, forceI_ok h, rfl, hr⟩
  | false => exact ⟨_, h, rfl, hr⟩
theorem opInt_ok {lit : Bool} {op : BinOp} {k : IntKind} {a b : Int} {K : Rs → Prop} (t : TypeId) (h : opInt lit op k a b K) (ha : inR k a) : ∃ v s, (∀ w', (binOp op t (.int k a) (.int k b)).run P w' = .ok v w') ∧ K s ∧ DnR β F w s v := by
  cases op <;> simp only [opInt] at h
  case add => obtain ⟨s, h1, h2⟩ := arith_ok (β := β) (F := F) (w := w) h; exact ⟨_, s, fun _ => by simp [binOp, Op.intArith], h1, h2⟩
  case sub => obtain ⟨s, h1, h2⟩ := arith_ok (β := β) (F := F) (w := w) h; exact ⟨_, s, fun _ => by simp [binOp, Op.intArith], h1, h2⟩
  case mul => obtain ⟨s, h1, h2⟩ := arith_ok (β := β) (F := F) (w := w) h; exact ⟨_, s, fun _ => by simp [binOp, Op.intArith], h1, h2⟩
  case quo => obtain ⟨h0, h⟩ := h; obtain ⟨s, h1, h2⟩ := arith_ok (β := β) (F := F) (w := w) h; exact ⟨_, s, fun _ => by simp [binOp, Op.intDiv, h0], h1, h2⟩
  case rem => obtain ⟨h0, h⟩ := h; obtain ⟨s, h1, h2⟩ := rem_ok (β := β) (F := F) (w := w) (inR_tmod ha) h; exact ⟨_, s, fun _ => by simp [binOp, Op.intDiv, h0], h1, h2⟩
  case and => obtain ⟨s, h1, h2⟩ := rem_ok (β := β) (F := F) (w := w) (inR_bits _ k a b) h; exact ⟨_, s, fun _ => by simp [binOp, Op.intBits, bits], h1, h2⟩
  case or => obtain ⟨s, h1, h2⟩ := rem_ok (β := β) (F := F) (w := w) (inR_bits _ k a b) h; exact ⟨_, s, fun _ => by simp [binOp, Op.intBits, bits], h1, h2⟩
  case xor => obtain ⟨s, h1, h2⟩ := rem_ok (β := β) (F := F) (w := w) (inR_bits _ k a b) h; exact ⟨_, s, fun _ => by simp [binOp, Op.intBits, bits], h1, h2⟩
  case andNot => obtain ⟨s, h1, h2⟩ := rem_ok (β := β) (F := F) (w := w) (inR_bits _ k a b) h; exact ⟨_, s, fun _ => by simp [binOp, Op.intBits, bits], h1, h2⟩
  case eql => obtain ⟨s, h1, h2⟩ := cmpB_ok (β := β) (F := F) (w := w) h; exact ⟨_, s, fun _ => by simp [binOp, Op.intCmp], h1, h2⟩
  case neq => obtain ⟨s, h1, h2⟩ := cmpB_ok (β := β) (F := F) (w := w) h; exact ⟨_, s, fun _ => by simp [binOp, Op.intCmp], h1, h2⟩
  case lss => obtain ⟨s, h1, h2⟩ := cmpB_ok (β := β) (F := F) (w := w) h; exact ⟨_, s, fun _ => by simp [binOp, Op.intCmp], h1, h2⟩
  case leq => obtain ⟨s, h1, h2⟩ := cmpB_ok (β := β) (F := F) (w := w) h; exact ⟨_, s, fun _ => by simp [binOp, Op.intCmp], h1, h2⟩
  case gtr => obtain ⟨s, h1, h2⟩ := cmpB_ok (β := β) (F := F) (w := w) h; exact ⟨_, s, fun _ => by simp [binOp, Op.intCmp], h1, h2⟩
  case geq => obtain ⟨s, h1, h2⟩ := cmpB_ok (β := β) (F := F) (w := w) h; exact ⟨_, s, fun _ => by simp [binOp, Op.intCmp], h1, h2⟩
theorem opShl_ok {lit litb : Bool} {k k' : IntKind} {a b : Int} {K : Rs → Prop} (t : TypeId) (h : opShl lit litb k a b K) : ∃ v s, (∀ w', (binOp .shl t (.int k a) (.int k' b)).run P w' = .ok v w') ∧ K s ∧ DnR β F w s v := by
  obtain ⟨h0, h⟩ := h
  have hn : ¬ b < 0 := by omega
  have hrun : ∀ w', (binOp .shl t (.int k a) (.int k' b)).run P w' = .ok (.int k (k.wrap (a * 2 ^ (min b.toNat k.bits)))) w' := fun _ => by simp [binOp, Op.shift, hn]
  cases litb with
  | true => obtain ⟨s, h1, h2⟩ := rem_ok (β := β) (F := F) (w := w) (inR_wrap _ _) (pow2K_ok h); exact ⟨_, s, hrun, h1, h2⟩
  | false => exact ⟨_, _, hrun, h, rfl, inR_wrap _ _⟩
theorem opShr_ok {lit litb : Bool} {k k' : IntKind} {a b : Int} {K : Rs → Prop} (t : TypeId) (h : opShr lit litb k a b K) (ha : inR k a) : ∃ v s, (∀ w', (binOp .shr t (.int k a) (.int k' b)).run P w' = .ok v w') ∧ K s ∧ DnR β F w s v := by
  obtain ⟨h0, h⟩ := h
  have hn : ¬ b < 0 := by omega
  have hrun : ∀ w', (binOp .shr t (.int k a) (.int k' b)).run P w' = .ok (.int k (a.fdiv (2 ^ (min b.toNat k.bits)))) w' := fun _ => by simp [binOp, Op.shift, hn]
  cases litb with
  | true => obtain ⟨s, h1, h2⟩ := rem_ok (β := β) (F := F) (w := w) (inR_fdiv _ ha) (pow2K_ok h); exact ⟨_, s, hrun, h1, h2⟩
  | false => exact ⟨_, _, hrun, h, rfl, inR_fdiv _ ha⟩
end
end Go.Proofs.YtnbbooilapelmaaGreatDoor.V
