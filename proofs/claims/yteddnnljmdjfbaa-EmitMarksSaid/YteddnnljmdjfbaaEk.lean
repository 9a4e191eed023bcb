import Derived.KernelRfl
import Derived.Test.YteddnnljmdjfbaaEj
namespace Go.Proofs.Yteddnnljmdjfbaa.V
open Go.RowKit Go.Proofs.Yteddnnljmdjfbaa
set_option linter.unusedSimpArgs false
/-- The jumps of items. -/
def jsI : Nat → List TN → List JN
  | _, [] => []
  | k, t :: r => if t.2 ≥ 0 then ((k : Int), t.2) :: jsI (k + 1) r else jsI (k + 1) r
structure Rp (l : List IN) (ms : List Int) (js : List JN) (it : List TN) : Prop where
  l : l = it.map (·.1)
  js : js = jsI 0 it
  ok : itOk it ms
theorem jsI_app : ∀ (it r : List TN) (k : Nat), jsI k (it ++ r) = jsI k it ++ jsI (k + it.length) r
  | [], r, k => by simp [jsI]
  | t :: it, r, k => by
    simp only [List.cons_append, jsI, List.length_cons]
    rw [jsI_app it r (k + 1), show k + 1 + it.length = k + (it.length + 1) by omega]
    split <;> simp
theorem jsI_in : ∀ (it : List TN) (k : Nat) (j : JN), j ∈ jsI k it → ∃ i t, it[i]? = some t ∧ j = (((k + i : Nat) : Int), t.2) ∧ t.2 ≥ 0
  | [], k, j, h => by cases h
  | t :: it, k, j, h => by
    unfold jsI at h
    by_cases ht : t.2 ≥ 0
    · rw [if_pos ht] at h
      rcases List.mem_cons.1 h with rfl | h
      · exact ⟨0, t, rfl, rfl, ht⟩
      · obtain ⟨i, u, h1, h2, h3⟩ := jsI_in it (k + 1) j h
        exact ⟨i + 1, u, by simpa using h1, by rw [h2, show k + 1 + i = k + (i + 1) by omega], h3⟩
    · rw [if_neg ht] at h
      obtain ⟨i, u, h1, h2, h3⟩ := jsI_in it (k + 1) j h
      exact ⟨i + 1, u, by simpa using h1, by rw [h2, show k + 1 + i = k + (i + 1) by omega], h3⟩
theorem Rp.jsOk {l : List IN} {ms : List Int} {js : List JN} {it : List TN} (h : Rp l ms js it) : jsOk l ms js := by
  intro j hj
  rw [h.js] at hj
  obtain ⟨i, t, h1, rfl, h3⟩ := jsI_in it 0 j hj
  have := h.ok t (List.mem_of_getElem? h1)
  have hi : i < it.length := (List.getElem?_eq_some_iff.1 h1).1
  rw [h.l, List.length_map]
  simp only
  omega
theorem bare_eq {ms : List Int} : ∀ (it : List TN) (k : Nat), bare ms (jsI k it) = rbare ms it
  | [], k => rfl
  | t :: it, k => by
    have ih := bare_eq (ms := ms) it (k + 1)
    unfold jsI
    by_cases ht : t.2 ≥ 0
    · rw [if_pos ht]
      simp only [bare, rbare, List.any_cons] at ih ⊢
      rw [ih, decide_eq_true ht]
      simp
    · rw [if_neg ht]
      simp only [bare, rbare, List.any_cons] at ih ⊢
      rw [ih, decide_eq_false ht]
      simp
theorem patch_eq {ms : List Int} : ∀ (it : List TN) (p : List IN), patch ms (jsI p.length it) (p ++ it.map (·.1)) = p ++ it.map (rpat ms)
  | [], p => by simp [jsI, patch]
  | t :: it, p => by
    unfold jsI
    by_cases ht : t.2 ≥ 0
    · rw [if_pos ht]
      show patch ms (jsI (p.length + 1) it) (pat1 ms (p ++ (t :: it).map (·.1)) ((p.length : Int), t.2)) = _
      have h1 : pat1 ms (p ++ (t :: it).map (·.1)) ((p.length : Int), t.2) = (p ++ [rpat ms t]) ++ it.map (·.1) := by
        simp [pat1, rpat, ht, List.getD]
      rw [h1]
      have := patch_eq (ms := ms) it (p ++ [rpat ms t])
      rw [List.length_append] at this
      rw [show p.length + 1 = p.length + [rpat ms t].length from rfl, this]
      simp
    · rw [if_neg ht]
      have h1 : p ++ (t :: it).map (·.1) = (p ++ [rpat ms t]) ++ it.map (·.1) := by simp [rpat, ht]
      rw [h1]
      have := patch_eq (ms := ms) it (p ++ [rpat ms t])
      rw [List.length_append] at this
      rw [show p.length + 1 = p.length + [rpat ms t].length from rfl, this]
      simp
theorem done_eq {bad : Bool} {l : List IN} {ms : List Int} {js : List JN} {it : List TN} (h : Rp l ms js it) : doneB bad l ms js = doneR bad it ms := by
  obtain ⟨h1, h2, h3⟩ := h
  subst h1
  subst h2
  have := patch_eq (ms := ms) it []
  simp only [List.nil_append, List.length_nil] at this
  unfold doneB doneR
  rw [bare_eq, this]
theorem Rp.nil : Rp [] [] [] [] := ⟨rfl, rfl, fun t h => by cases h⟩
theorem Rp.add {l : List IN} {ms : List Int} {js : List JN} {it : List TN} (h : Rp l ms js it) (d : List IN) : Rp (l ++ d) ms js (it ++ d.map fun i => (i, (-1 : Int))) := by
  obtain ⟨h1, h2, h3⟩ := h
  refine ⟨by rw [h1]; simp [Function.comp_def], ?_, ?_⟩
  · have : ∀ (d : List IN) (k : Nat), jsI k (d.map fun i => (i, (-1 : Int))) = [] := by
      intro d
      induction d with
      | nil => intro k; rfl
      | cons i d ih => intro k; show (if (-1 : Int) ≥ 0 then _ else _) = _; rw [if_neg (by omega)]; exact ih _
    rw [jsI_app, this, h2]; simp
  · intro t ht
    rcases List.mem_append.1 ht with ht | ht
    · exact h3 t ht
    · obtain ⟨i, _, rfl⟩ := List.mem_map.1 ht
      simp only
      omega
theorem Rp.mark {l : List IN} {ms : List Int} {js : List JN} {it : List TN} (h : Rp l ms js it) (v : Int) : Rp l (ms ++ [v]) js it := by
  obtain ⟨h1, h2, h3⟩ := h
  exact ⟨h1, h2, fun t ht => by have := h3 t ht; simp; omega⟩
theorem Rp.set {l : List IN} {ms : List Int} {js : List JN} {it : List TN} (h : Rp l ms js it) (i : Nat) (v : Int) : Rp l (ms.set i v) js it := by
  obtain ⟨h1, h2, h3⟩ := h
  exact ⟨h1, h2, fun t ht => by have := h3 t ht; simp; omega⟩
theorem Rp.jump {l : List IN} {ms : List Int} {js : List JN} {it : List TN} (h : Rp l ms js it) (x : IN) (m : Int) (hm : isM m ms = true) : Rp (l ++ [x]) ms (js ++ [((l.length : Int), m)]) (it ++ [(x, m)]) := by
  obtain ⟨h1, h2, h3⟩ := h
  have hm : 0 ≤ m ∧ m < (ms.length : Int) := by simpa [isM] using hm
  refine ⟨by rw [h1]; simp, ?_, ?_⟩
  · rw [jsI_app, h2, h1]
    congr 1
    show _ = (if m ≥ 0 then _ else _)
    rw [if_pos (by omega)]
    simp [jsI]
  · intro t ht
    rcases List.mem_append.1 ht with ht | ht
    · exact h3 t ht
    · simp at ht
      subst ht
      exact hm.2
end Go.Proofs.Yteddnnljmdjfbaa.V
