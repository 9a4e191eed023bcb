/-
  make, clear and copy on slices of elements of several cells; a store into an owned slice; lines.
-/
import Derived.Laws.MakeOwn
import Derived.Test.YtigbhlkafmpgmaaKitD
namespace Go.Proofs.Ytigbhlkafmpgmaa
open Go.RowKit

theorem encLns_rep_get (z : Ln) : ∀ (n t : Nat), t < n * 8 → (encLns (List.replicate n z))[t]? = (encLn z)[t % 8]? := fun n t ht => by
  have h := encLns_get (List.replicate n z) (t / 8) z (by rw [List.getElem?_replicate]; rw [if_pos (by omega)]) (t % 8) (Nat.mod_lt _ (by omega))
  rw [← h]
  congr 1
  omega
/-- make's own cells, of lines. -/
theorem made_lines (n : Nat) : madeCells #[.int .u64 0, .int .u64 0, .int .u64 0, .int .u64 0, .int .u64 0, .int .u64 0, .int .u64 0, .int .u64 0] (n * 8) = (encLns (List.replicate n Ln.zero)).toArray := by
  apply Array.ext_getElem?
  intro t
  by_cases ht : t < n * 8
  · rw [show (encLns (List.replicate n Ln.zero)).toArray[t]? = (encLns (List.replicate n Ln.zero))[t]? by simp, encLns_rep_get _ _ _ ht]
    have h8 : t % 8 < 8 := Nat.mod_lt _ (by omega)
    simp only [madeCells, Array.getElem?_map, Array.getElem?_range, ht, if_true, Option.map_some]
    show some ((#[Value.int .u64 0, Value.int .u64 0, Value.int .u64 0, Value.int .u64 0, Value.int .u64 0, Value.int .u64 0, Value.int .u64 0, Value.int .u64 0] : Array Value)[t % 8]!) = _
    generalize t % 8 = r at h8
    match r, h8 with
    | 0, _ | 1, _ | 2, _ | 3, _ | 4, _ | 5, _ | 6, _ | 7, _ => rfl
  · rw [Array.getElem?_eq_none (by rw [size_madeCells]; omega), show (encLns (List.replicate n Ln.zero)).toArray[t]? = (encLns (List.replicate n Ln.zero))[t]? by simp, List.getElem?_eq_none (by rw [encLns_len, List.length_replicate]; omega)]
theorem zeroed_lines (n : Nat) : (Builtin.zeroCells #[.int .u64 0, .int .u64 0, .int .u64 0, .int .u64 0, .int .u64 0, .int .u64 0, .int .u64 0, .int .u64 0] n).toList = encLns (List.replicate n Ln.zero) := by
  have h : Builtin.zeroCells #[.int .u64 0, .int .u64 0, .int .u64 0, .int .u64 0, .int .u64 0, .int .u64 0, .int .u64 0, .int .u64 0] n = madeCells #[.int .u64 0, .int .u64 0, .int .u64 0, .int .u64 0, .int .u64 0, .int .u64 0, .int .u64 0, .int .u64 0] (n * 8) := rfl
  rw [h, made_lines]

section
variable {P : Program}
theorem run_clear_row (w : World) (t e ty : TypeId) (z : Value) (zs : List Value) (ht : P.underlying t = some (.slice e)) (hv : ∀ w, (zeroValue e).run P w = .ok z w) (b o n c : Nat) (hn : 0 < n) (hz : (Builtin.zeroCells z.cells n).toList = zs)
    (hc : ∀ j, j < zs.length → (w.cell? ⟨b, o + j, none⟩).isSome = true) (hf : ∀ j, j < zs.length → w.frozen? ⟨b, o + j, none⟩ = false) (h1 : ∀ u ∈ zs, u.oneCell' = true) :
    (Builtin.clear_ #[t] ty #[.slice (some ⟨b, o, none⟩) n c]).run P w = .ok (.tuple #[]) (w.setCells b o zs) := by
  have hst := run_storeCells_cells (P := P) b o zs 0 w (by simpa using hc) (by simpa using hf) h1
  simp only [Nat.add_zero] at hst
  obtain ⟨m, rfl⟩ : ∃ m, n = m + 1 := ⟨n - 1, by omega⟩
  simp [Builtin.clear_, run_underlying ht, hv, hz, hst]
theorem run_copy_row (w : World) (dT sT ty elem : TypeId) (i : TypeInfo) (sz b o n dCap : Nat) (a : Addr) (sCap : Nat) (cs : List Value)
    (hu : P.underlying dT = some (.slice elem)) (hq : P.info? elem = some i) (hi : i.size = sz) (hn : cs.length = n * sz)
    (hsrc : ∀ j v, cs[j]? = some v → w.cell? (a.add j) = some v) (hc : ∀ j, j < cs.length → (w.cell? ⟨b, o + j, none⟩).isSome = true) (hf : ∀ j, j < cs.length → w.frozen? ⟨b, o + j, none⟩ = false) (h1 : ∀ v ∈ cs, v.oneCell' = true) :
    (Builtin.copy_ #[dT, sT] ty #[.slice (some ⟨b, o, none⟩) n dCap, .slice (some a) n sCap]).run P w = .ok (goInt n) (w.setCells b o cs) := by
  have hl := run_loadCells_list (P := P) w a cs hsrc
  have hst := run_storeCells_cells (P := P) b o cs 0 w (by simpa using hc) (by simpa using hf) h1
  rw [hn] at hl
  simp [Builtin.copy_, run_underlying hu, Builtin.lenOf, Builtin.firstCells, sizeOf, typeInfo, hq, hi, hl, hst]
end

theorem take_drop_put (cur : List Value) (o i k n : Nat) (ys : List Value) (hi : i + ys.length ≤ n) (ho : o + n ≤ cur.length) (hk : k = o + i) :
    ((cur.take k ++ ys ++ cur.drop (k + ys.length)).drop o).take n = ((cur.drop o).take n).take i ++ ys ++ ((cur.drop o).take n).drop (i + ys.length) := by
  subst hk
  apply List.ext_getElem?
  intro t
  simp only [List.getElem?_take, List.getElem?_drop, List.getElem?_append, List.length_append, List.length_take, List.length_drop]
  have h1 : min (o + i) cur.length = o + i := by omega
  have h2 : min i (min n (cur.length - o)) = i := by omega
  simp only [h1, h2]
  by_cases a : t < n
  · by_cases b : t < i
    · simp [a, b, show o + t < o + i + ys.length by omega, show o + t < o + i by omega, show t < i + ys.length by omega]
    · by_cases c : t < i + ys.length
      · simp [a, b, c, show o + t < o + i + ys.length by omega, show ¬ o + t < o + i by omega, show o + t - (o + i) = t - i by omega]
      · simp [a, b, c, show ¬ o + t < o + i + ys.length by omega, show i + ys.length + (t - (i + ys.length)) < n by omega]
        congr 1
        omega
  · simp [a, show ¬ t < i by omega, show ¬ t < i + ys.length by omega, show ¬ i + ys.length + (t - (i + ys.length)) < n by omega]
/-- A store into an owned slice. -/
theorem Own.put {w : World} {base : Nat} {e : TypeId} {sz g o n cap : Nat} {xs : List Value} (h : Own w base e sz (.slice (some ⟨g, o, none⟩) n cap) n xs) (i : Nat) (ys : List Value) (hi : i + ys.length ≤ n * sz) :
    Own (w.setCells g (o + i) ys) base e sz (.slice (some ⟨g, o, none⟩) n cap) n (xs.take i ++ ys ++ xs.drop (i + ys.length)) := by
  obtain ⟨hl, h⟩ := h
  rcases h with ⟨hv, _⟩ | ⟨g', o', cap', cur, hv, hb, hg, hnc, hcm, hcs, htake⟩
  · cases hv
  · injection hv with h1 h2 h3
    injection h1 with h1
    injection h1 with hg' ho'
    subst hg'; subst ho'; subst h3
    have hm : n * sz ≤ cap * sz := Nat.mul_le_mul_right _ hnc
    have hcl : o + n * sz ≤ cur.toList.length := by rw [Array.length_toList]; omega
    refine ⟨?_, .inr ⟨g, o, cap, _, rfl, hb, row_setCells g e ys (o + i) w cur hg (by omega), hnc, hcm, ?_, ?_⟩⟩
    · rw [List.length_append, List.length_append, List.length_take, List.length_drop, hl]; omega
    · simp only [List.size_toArray, List.length_append, List.length_take, List.length_drop, Array.length_toList]
      omega
    · show List.take (n * sz) (List.drop o (List.take (o + i) cur.toList ++ ys ++ List.drop (o + i + ys.length) cur.toList)) = _
      rw [take_drop_put cur.toList o i _ (n * sz) ys hi hcl rfl, htake]
end Go.Proofs.Ytigbhlkafmpgmaa
