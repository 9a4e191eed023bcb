/-
  Lines of eight words, and lists of them, as cells.
-/
import Derived.Test.YtejeghfddnbhaaaKitC
namespace Go.Proofs.Ytejeghfddnbhaaa
open Go.RowKit

/-- A line. -/
structure Ln where
  d0 : Int
  d1 : Int
  d2 : Int
  d3 : Int
  d4 : Int
  d5 : Int
  d6 : Int
  d7 : Int
  deriving DecidableEq
def Ln.zero : Ln := ⟨0, 0, 0, 0, 0, 0, 0, 0⟩
def encLn (m : Ln) : List Value := [.int .u64 m.d0, .int .u64 m.d1, .int .u64 m.d2, .int .u64 m.d3, .int .u64 m.d4, .int .u64 m.d5, .int .u64 m.d6, .int .u64 m.d7]
def encLns : List Ln → List Value
  | [] => []
  | m :: r => encLn m ++ encLns r
def Ln.get (m : Ln) : Nat → Int | 0 => m.d0 | 1 => m.d1 | 2 => m.d2 | 3 => m.d3 | 4 => m.d4 | 5 => m.d5 | 6 => m.d6 | 7 => m.d7 | _ => 0
def Ln.set (m : Ln) (n : Nat) (v : Int) : Ln := match n with
  | 0 => { m with d0 := v } | 1 => { m with d1 := v } | 2 => { m with d2 := v } | 3 => { m with d3 := v } | 4 => { m with d4 := v } | 5 => { m with d5 := v } | 6 => { m with d6 := v } | 7 => { m with d7 := v } | _ => m
theorem encLn_len (m : Ln) : (encLn m).length = 8 := rfl
theorem encLns_len : ∀ ms : List Ln, (encLns ms).length = ms.length * 8
  | [] => rfl
  | m :: r => by rw [encLns, List.length_append, encLn_len, encLns_len r, List.length_cons]; omega
theorem encLns_app : ∀ ms ms' : List Ln, encLns (ms ++ ms') = encLns ms ++ encLns ms'
  | [], _ => rfl
  | m :: r, ms' => by simp [encLns, encLns_app r]
theorem encLns_one : ∀ ms : List Ln, ∀ u ∈ encLns ms, u.oneCell' = true
  | [], u, h => by cases h
  | m :: r, u, h => by
    rcases List.mem_append.1 h with h | h
    · simp [encLn] at h
      rcases h with rfl | rfl | rfl | rfl | rfl | rfl | rfl | rfl <;> rfl
    · exact encLns_one r u h
theorem encLns_get : ∀ (ms : List Ln) (i : Nat) (m : Ln), ms[i]? = some m → ∀ j, j < 8 → (encLns ms)[i * 8 + j]? = (encLn m)[j]?
  | m :: r, 0, m', h, j, hj => by
    simp at h; subst h
    rw [encLns, List.getElem?_append_left (by rw [encLn_len]; omega)]
    simp
  | m :: r, i + 1, m', h, j, hj => by
    rw [encLns, List.getElem?_append_right (by rw [encLn_len]; omega)]
    have := encLns_get r i m' (by simpa using h) j hj
    rw [← this]
    congr 1
    rw [encLn_len]
    omega
theorem encLns_take : ∀ (ms : List Ln) (i : Nat), (encLns ms).take (i * 8) = encLns (ms.take i)
  | [], i => by simp [encLns]
  | m :: r, 0 => by simp [encLns]
  | m :: r, i + 1 => by
    rw [encLns, List.take_succ_cons, encLns, List.take_append, List.take_of_length_le (by rw [encLn_len]; omega), ← encLns_take r i, encLn_len]
    congr 2
    omega
theorem encLns_drop : ∀ (ms : List Ln) (i : Nat), (encLns ms).drop (i * 8) = encLns (ms.drop i)
  | [], i => by simp [encLns]
  | m :: r, 0 => by simp [encLns]
  | m :: r, i + 1 => by
    rw [encLns, List.drop_succ_cons, List.drop_append, List.drop_of_length_le (by rw [encLn_len]; omega), ← encLns_drop r i, encLn_len, List.nil_append]
    congr 1
    omega
/-- A line laid at its place. -/
theorem encLns_set (ms : List Ln) (i : Nat) (x : Ln) (h : i < ms.length) : (encLns ms).take (i * 8) ++ encLn x ++ (encLns ms).drop (i * 8 + 8) = encLns (ms.set i x) := by
  rw [encLns_take, show i * 8 + 8 = (i + 1) * 8 by omega, encLns_drop, List.set_eq_take_append_cons_drop, if_pos h, encLns_app, encLns]
  simp [List.append_assoc]
theorem encLns_inj : ∀ {ms ms' : List Ln}, encLns ms = encLns ms' → ms = ms'
  | [], [], _ => rfl
  | [], m :: r, h => by simp [encLns, encLn] at h
  | m :: r, [], h => by simp [encLns, encLn] at h
  | m :: r, m' :: r', h => by
    simp [encLns, encLn] at h
    obtain ⟨h0, h1, h2, h3, h4, h5, h6, h7, hr⟩ := h
    have : m = m' := by cases m; cases m'; simp_all
    rw [this, encLns_inj hr]

def eqLn (m m' : Ln) : Bool := m.d0 == m'.d0 && (m.d1 == m'.d1 && (m.d2 == m'.d2 && (m.d3 == m'.d3 && (m.d4 == m'.d4 && (m.d5 == m'.d5 && (m.d6 == m'.d6 && m.d7 == m'.d7))))))
theorem eqLn_iff (m m' : Ln) : eqLn m m' = true ↔ m = m' := by
  cases m; cases m'
  simp [eqLn]
theorem eqLn_decide (m m' : Ln) : eqLn m m' = decide (m = m') := by rw [Bool.eq_iff_iff, eqLn_iff, decide_eq_true_iff]

theorem row_setCells (g : Nat) (t : TypeId) : ∀ (vs : List Value) (o : Nat) (w : World) (cur : Array Value), w.heap[g]? = some (.cells cur t (0, 0)) → o + vs.length ≤ cur.size →
    (w.setCells g o vs).heap[g]? = some (.cells (cur.toList.take o ++ vs ++ cur.toList.drop (o + vs.length)).toArray t (0, 0))
  | [], o, w, cur, h, _ => by
    show w.heap[g]? = _
    rw [h]
    simp
  | v :: vs, o, w, cur, h, hl => by
    have h1 := heap_setCell_same w g o cur t v h
    have h2 := row_setCells g t vs (o + 1) (w.setCell ⟨g, o, none⟩ v) _ h1 (by simp at hl ⊢; omega)
    rw [World.setCells, h2]
    congr 2
    have e := list_seg_step cur.toList o v vs (by simp at hl ⊢; omega)
    simpa [Array.toList_setIfInBounds, Nat.add_assoc, Nat.add_comm] using e
end Go.Proofs.Ytejeghfddnbhaaa
