/-
  A copy by append onto a slice that is new and empty: whatever is copied, nothing too.
-/
import Derived.Test.YtigbhlkafmpgmaaKitC
namespace Go.Proofs.Ytigbhlkafmpgmaa
open Go.RowKit
section
variable {P : Program}
theorem own_new (w : World) (e : TypeId) (sz : Nat) : Own (w.alloc (.cells #[] e)) w.heap.size e sz (.slice (some ⟨w.heap.size, 0, none⟩) 0 0) 0 [] :=
  ⟨by simp, .inr ⟨w.heap.size, 0, 0, #[], rfl, Nat.le_refl _, heap_alloc_new w _, Nat.le_refl _, Nat.zero_le _, by simp, by simp⟩⟩
theorem run_copy_new (t ty e : TypeId) (i : TypeInfo) (z : Value) (size bytes : Nat) (ht : P.underlying t = some (.slice e)) (hi : P.info? e = some i) (hz : i.zero = some z)
    (hsize : i.size = size) (hby : i.bytes = bytes) (hzs : z.cells.size = size) (w : World) (vx : Value) (m : Nat) (news : List Value) (hr : Rds w size vx m news) (h1 : ∀ u ∈ news, u.oneCell' = true) (h63 : m ≤ maxLen) (hb : m * bytes ≤ 140737488355328) :
    ∃ v' w', (Builtin.append_ #[t, t] ty #[.slice (some ⟨w.heap.size, 0, none⟩) 0 0, vx]).run P (w.alloc (.cells #[] e)) = .ok v' w' ∧ Own w' w.heap.size e size v' m news ∧ Below w.heap.size w w' := by
  obtain ⟨hl, a, cap, rfl, h2, h3, h4, h5⟩ := hr
  rcases Nat.eq_zero_or_pos m with h0 | h0
  · subst h0
    have hx : news = [] := List.eq_nil_of_length_eq_zero (by simpa using hl)
    subst hx
    refine ⟨_, _, ?_, own_new w e size, Below.al (Below.refl _ _) _⟩
    cases a with
    | none => simp [Builtin.append_, run_underlying ht, sizeOf, typeInfo, hi, Builtin.lenOf, Builtin.firstCells, loadCells, loadCellsFrom, storeCells]
    | some ad => simp [Builtin.append_, run_underlying ht, sizeOf, typeInfo, hi, Builtin.lenOf, Builtin.firstCells, loadCells, loadCellsFrom, storeCells]
  · obtain ⟨g, o, rfl, hg, hc⟩ := h5 h0
    have hnews : ∀ j u, news[j]? = some u → (w.alloc (.cells #[] e)).cell? ((⟨g, o, none⟩ : Addr).add j) = some u := fun j u hu => by
      have hadd : (⟨g, o, none⟩ : Addr).add j = ⟨g, o + j, none⟩ := by unfold Addr.add; split <;> simp_all
      rw [hadd, World.cell?_alloc_old _ _ _ (by simp; omega)]
      exact hc j u hu
    obtain ⟨g', o', cap', w', hrun, hown, honly, _, _⟩ := run_append_Own (P := P) (w.alloc (.cells #[] e)) w.heap.size t ty e i z size bytes ht hi hz hsize hby hzs _ 0 [] (own_new w e size) ⟨g, o, none⟩ m cap news hl hnews h1 h0 (by omega) (by simpa using hb) (by simp)
    simp only [Nat.zero_add, List.nil_append] at hown hrun
    exact ⟨_, _, hrun, hown, Only.below (S := fun k => k = w.heap.size) (Only.trans (Only.al (Only.refl _ _) _) (honly.mono (fun k _ h => (Option.some.inj h).symm))) (Nat.le_refl _) (fun k hk => by omega)⟩
theorem wp_copy_new {o : Oper} {a : Act} {K : Act → World → Prop} {Q : Exit → Act → World → Prop} (s x : Operand) (t : TypeId)
    (ho : o.op = .call { callee := .builtin .append, args := #[s, x], argTypes := #[t, t] })
    (e : TypeId) (i : TypeInfo) (z : Value) (size bytes : Nat) (ht : P.underlying t = some (.slice e)) (hi : P.info? e = some i) (hz : i.zero = some z)
    (hsize : i.size = size) (hby : i.bytes = bytes) (hzs : z.cells.size = size) (w : World) (hs : a.eval s = .slice (some ⟨w.heap.size, 0, none⟩) 0 0)
    (vx : Value) (m : Nat) (news : List Value) (hx : a.eval x = vx) (hr : Rds w size vx m news) (h1 : ∀ u ∈ news, u.oneCell' = true) (h63 : m ≤ maxLen) (hb : m * bytes ≤ 140737488355328)
    (h : ∀ v' w', Own w' w.heap.size e size v' m news → Below w.heap.size w w' → K (a.put o.dst v') w') : o.wp P a (w.alloc (.cells #[] e)) K Q := by
  obtain ⟨v', w', hrun, h2, h3⟩ := run_copy_new (P := P) t o.type e i z size bytes ht hi hz hsize hby hzs w vx m news hr h1 h63 hb
  unfold Oper.wp execOp
  simp only [ho, resolve, invoke, builtin, Sem.run_bind, Sem.run_pure, Result.andThen_ok, List.map_toArray, List.map_cons, List.map_nil, hs, hx, hrun]
  exact h v' w' h2 h3
/-- 'append([]T{}, x...)': x read as m elements, the cells news. -/
theorem wpList_copy_new {ops : Array Oper} {rest : List Oper} {o : Oper} {a : Act} {Q : Exit → Act → World → Prop} (hgd : o.guard = none) (s x : Operand) (t : TypeId)
    (ho : o.op = .call { callee := .builtin .append, args := #[s, x], argTypes := #[t, t] })
    (e : TypeId) (i : TypeInfo) (z : Value) (size bytes : Nat) (ht : P.underlying t = some (.slice e)) (hi : P.info? e = some i) (hz : i.zero = some z)
    (hsize : i.size = size) (hby : i.bytes = bytes) (hzs : z.cells.size = size) (w : World) (hs : a.eval s = .slice (some ⟨w.heap.size, 0, none⟩) 0 0)
    (vx : Value) (m : Nat) (news : List Value) (hx : a.eval x = vx) (hr : Rds w size vx m news) (h1 : ∀ u ∈ news, u.oneCell' = true) (h63 : m ≤ maxLen) (hb : m * bytes ≤ 140737488355328)
    (h : ∀ v' w', Own w' w.heap.size e size v' m news → Below w.heap.size w w' → wpList P ops Q rest (a.put o.dst v') w') : wpList P ops Q (o :: rest) a (w.alloc (.cells #[] e)) :=
  wpList_plain hgd fun _ hK => wp_copy_new s x t ho e i z size bytes ht hi hz hsize hby hzs w hs vx m news hx hr h1 h63 hb fun v' w' h2 h3 => hK _ _ (h v' w' h2 h3)
end
end Go.Proofs.Ytigbhlkafmpgmaa
