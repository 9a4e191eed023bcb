/-
  A region's operations, one by one, by the kernel: for long expressions of && and ||.
-/
import Derived.Test.YtejeghfddnbhaaaGood
import Derived.Deep.CutBlock
import Derived.Test.YtejeghfddnbhaaaKitA
namespace Go.Proofs.Ytejeghfddnbhaaa
open Go.RowKit
section
variable {P : Program} {ops : Array Oper} {Q : Exit → Act → World → Prop} {w : World} {rest : List Oper} {o : Oper} {l : List Value} {ds : List Deferred}
theorem act_put (l : List Value) (ds : List Deferred) (i : Nat) (v : Value) : (⟨l.toArray, ds⟩ : Act).put (some i) v = ⟨(l.set i v).toArray, ds⟩ := by
  simp [Act.put]
theorem fast_skip (i : Nat) (hd : o.dst = some i) (hw : Region.wanted o (yielded ops l.toArray) = false) (k : wpList P ops Q rest ⟨(l.set i undef).toArray, ds⟩ w) : wpList P ops Q (o :: rest) ⟨l.toArray, ds⟩ w :=
  wpList_step fun K hK => by
    rw [hd, act_put]
    simp only [hw]
    exact hK _ _ k
theorem fast_val (i : Nat) (v : Value) (hd : o.dst = some i) (hw : Region.wanted o (yielded ops l.toArray) = true) (he : (execOp (Act.eval ⟨l.toArray, ds⟩) o).run P w = .ok (.value v) w) (k : wpList P ops Q rest ⟨(l.set i v).toArray, ds⟩ w) : wpList P ops Q (o :: rest) ⟨l.toArray, ds⟩ w :=
  wpList_step fun K hK => by
    simp only [hw, if_true]
    show Oper.wp P o ⟨l.toArray, ds⟩ w K Q
    unfold Oper.wp
    rw [he, Oper.upon_value, hd, act_put]
    exact hK _ _ k
theorem wanted_of (j s : Nat) (pol bv : Bool) (hg : o.guard = some (j, pol)) (hd : (ops[j]?).bind (·.dst) = some s) (hl : l[s]? = some (.bool bv)) : Region.wanted o (yielded ops l.toArray) = (bv == pol) := by
  simp [Region.wanted, hg, yielded, hd, hl]
theorem wanted_undef (j s : Nat) (pol : Bool) (hg : o.guard = some (j, pol)) (hd : (ops[j]?).bind (·.dst) = some s) (hl : l[s]? = some undef) : Region.wanted o (yielded ops l.toArray) = false := by
  simp [Region.wanted, hg, yielded, hd, hl, undef]
theorem eval_tmp (k : Nat) (v : Value) (h : l[k]? = some v) : Act.eval ⟨l.toArray, ds⟩ (.tmp k) = v := by
  simp [Act.eval, h]
theorem gn {α : Type} {l : List α} {i j : Nat} {x : α} {v : Option α} (h : Nat.beq i j = false) (hl : l[j]? = v) : (l.set i x)[j]? = v := by rw [List.getElem?_set_ne (Nat.ne_of_beq_eq_false h)]; exact hl
theorem ge {α : Type} {l : List α} {i : Nat} {x : α} (h : l.length = 83) (hi : Nat.ble (i + 1) 83 = true) : (l.set i x)[i]? = some x := by rw [List.getElem?_set_self (by rw [h]; exact Nat.le_of_ble_eq_true hi)]
theorem ls {α : Type} {l : List α} {i : Nat} {x : α} (h : l.length = 83) : (l.set i x).length = 83 := by rw [List.length_set, h]
theorem limb_end (p v : Value) (m : Nat) (h1 : l[1]? = some p) (hm : l[m]? = some v) (hlen : l.length = 83) (k : ∀ l' : List Value, l'.length = 83 → l'[1]? = some p → l'[m]? = some v → wpList P ops Q rest ⟨l'.toArray, ds⟩ w) : wpList P ops Q rest ⟨l.toArray, ds⟩ w := k l hlen h1 hm
theorem limb_two (p v u : Value) (m n : Nat) (h1 : l[1]? = some p) (hm : l[m]? = some v) (hn : l[n]? = some u) (hlen : l.length = 83) (k : ∀ l' : List Value, l'.length = 83 → l'[1]? = some p → l'[m]? = some v → l'[n]? = some u → wpList P ops Q rest ⟨l'.toArray, ds⟩ w) : wpList P ops Q rest ⟨l.toArray, ds⟩ w := k l hlen h1 hm hn
end
theorem fast_move (W : World) (ρ : Operand → Value) (o : Oper) (x : Operand) (v : Value) (ho : o.op = .move x) (hx : ρ x = v) : (execOp ρ o).run Try.prog W = .ok (.value v) W := by
  unfold execOp
  simp [ho, hx, go_sem]
theorem fast_assign (W : World) (ρ : Operand → Value) (o : Oper) (x : Operand) (v : Value) (ho : o.op = .assign x) (hx : ρ x = v) : (execOp ρ o).run Try.prog W = .ok (.value v) W := by
  unfold execOp
  simp [ho, hx, go_sem]
theorem fast_pick (W : World) (ρ : Operand → Value) (o : Oper) (x y z : Operand) (b : Bool) (v : Value) (ho : o.op = .pick x y z) (hx : ρ x = .bool b) (hv : (if b then ρ y else ρ z) = v) : (execOp ρ o).run Try.prog W = .ok (.value v) W := by
  unfold execOp
  cases b <;> simp_all [go_sem]
theorem fast_addr0 (W : World) (ρ : Operand → Value) (o : Oper) (x : Operand) (b : Nat) (ho : o.op = .fieldAddr 23 x 0) (hx : ρ x = .pointer (some ⟨b, 0, none⟩)) : (execOp ρ o).run Try.prog W = .ok (.value (.pointer (some ⟨b, 0, none⟩))) W := by
  unfold execOp
  simp [ho, hx, go_sem]
theorem fast_addr1 (W : World) (ρ : Operand → Value) (o : Oper) (x : Operand) (b : Nat) (ho : o.op = .fieldAddr 23 x 1) (hx : ρ x = .pointer (some ⟨b, 0, none⟩)) : (execOp ρ o).run Try.prog W = .ok (.value (.pointer (some ⟨b, 1, none⟩))) W := by
  unfold execOp
  simp [ho, hx, go_sem]
theorem fast_addr2 (W : World) (ρ : Operand → Value) (o : Oper) (x : Operand) (b : Nat) (ho : o.op = .fieldAddr 23 x 2) (hx : ρ x = .pointer (some ⟨b, 0, none⟩)) : (execOp ρ o).run Try.prog W = .ok (.value (.pointer (some ⟨b, 2, none⟩))) W := by
  unfold execOp
  simp [ho, hx, go_sem]
theorem fast_addr3 (W : World) (ρ : Operand → Value) (o : Oper) (x : Operand) (b : Nat) (ho : o.op = .fieldAddr 23 x 3) (hx : ρ x = .pointer (some ⟨b, 0, none⟩)) : (execOp ρ o).run Try.prog W = .ok (.value (.pointer (some ⟨b, 3, none⟩))) W := by
  unfold execOp
  simp [ho, hx, go_sem]
theorem fast_addr4 (W : World) (ρ : Operand → Value) (o : Oper) (x : Operand) (b : Nat) (ho : o.op = .fieldAddr 23 x 4) (hx : ρ x = .pointer (some ⟨b, 0, none⟩)) : (execOp ρ o).run Try.prog W = .ok (.value (.pointer (some ⟨b, 4, none⟩))) W := by
  unfold execOp
  simp [ho, hx, go_sem]
theorem fast_addr5 (W : World) (ρ : Operand → Value) (o : Oper) (x : Operand) (b : Nat) (ho : o.op = .fieldAddr 23 x 5) (hx : ρ x = .pointer (some ⟨b, 0, none⟩)) : (execOp ρ o).run Try.prog W = .ok (.value (.pointer (some ⟨b, 5, none⟩))) W := by
  unfold execOp
  simp [ho, hx, go_sem]
theorem fast_addr6 (W : World) (ρ : Operand → Value) (o : Oper) (x : Operand) (b : Nat) (ho : o.op = .fieldAddr 23 x 6) (hx : ρ x = .pointer (some ⟨b, 0, none⟩)) : (execOp ρ o).run Try.prog W = .ok (.value (.pointer (some ⟨b, 6, none⟩))) W := by
  unfold execOp
  simp [ho, hx, go_sem]
theorem fast_load (W : World) (ρ : Operand → Value) (o : Oper) (x : Operand) (b j : Nat) (v : Int) (hc : W.cell? ⟨b, j, none⟩ = some (.int .i64 v)) (ho : o.op = .load 3 x) (hx : ρ x = .pointer (some ⟨b, j, none⟩)) :
    (execOp ρ o).run Try.prog W = .ok (.value (.int .i64 v)) W := by
  unfold execOp
  simp [ho, hx, go_sem, hc]
theorem fast_geq (W : World) (ρ : Operand → Value) (o : Oper) (x y : Operand) (m n : Int) (r : Bool) (hr : decide (n ≤ m) = r) (ho : o.op = .binOp .geq 3 x y 3) (hx : ρ x = .int .i64 m) (hy : ρ y = .int .i64 n) :
    (execOp ρ o).run Try.prog W = .ok (.value (.bool r)) W := by
  unfold execOp
  simp [ho, hx, hy, go_sem, ← hr]
theorem fast_leq (W : World) (ρ : Operand → Value) (o : Oper) (x y : Operand) (m n : Int) (r : Bool) (hr : decide (m ≤ n) = r) (ho : o.op = .binOp .leq 3 x y 3) (hx : ρ x = .int .i64 m) (hy : ρ y = .int .i64 n) :
    (execOp ρ o).run Try.prog W = .ok (.value (.bool r)) W := by
  unfold execOp
  simp [ho, hx, hy, go_sem, ← hr]
theorem fast_lss (W : World) (ρ : Operand → Value) (o : Oper) (x y : Operand) (m n : Int) (r : Bool) (hr : decide (m < n) = r) (ho : o.op = .binOp .lss 3 x y 3) (hx : ρ x = .int .i64 m) (hy : ρ y = .int .i64 n) :
    (execOp ρ o).run Try.prog W = .ok (.value (.bool r)) W := by
  unfold execOp
  simp [ho, hx, hy, go_sem, ← hr]
theorem fast_eql (W : World) (ρ : Operand → Value) (o : Oper) (x y : Operand) (m n : Int) (r : Bool) (hr : (m == n) = r) (ho : o.op = .binOp .eql 3 x y 3) (hx : ρ x = .int .i64 m) (hy : ρ y = .int .i64 n) :
    (execOp ρ o).run Try.prog W = .ok (.value (.bool r)) W := by
  unfold execOp
  simp [ho, hx, hy, go_sem, ← hr]
end Go.Proofs.Ytejeghfddnbhaaa
