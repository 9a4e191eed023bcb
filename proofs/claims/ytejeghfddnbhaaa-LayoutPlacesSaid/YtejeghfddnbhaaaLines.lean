/-
  Lines with words, and words of lines: plain laws.
-/
import Derived.Test.YtejeghfddnbhaaaKitD
namespace Go.Proofs.Ytejeghfddnbhaaa
open Go.RowKit

def encU (xs : List Int) : List Value := xs.map (fun x => .int .u64 x)
theorem encU_len (xs : List Int) : (encU xs).length = xs.length := by simp [encU]
theorem encU_get {xs : List Int} {i : Nat} {x : Int} (h : xs[i]? = some x) : (encU xs)[i]? = some (.int .u64 x) := by simp [encU, h]
theorem encU_app (xs ys : List Int) : encU (xs ++ ys) = encU xs ++ encU ys := by simp [encU]
theorem encU_one (xs : List Int) : ∀ u ∈ encU xs, u.oneCell' = true := by
  intro u hu
  obtain ⟨x, _, rfl⟩ := List.mem_map.1 hu
  rfl
theorem encU_inj {xs ys : List Int} (h : encU xs = encU ys) : xs = ys := by
  refine (List.map_inj_right ?_).1 h
  intro a b hab
  injection hab
def lnWords (x : Ln) : List Int := [x.d0, x.d1, x.d2, x.d3, x.d4, x.d5, x.d6, x.d7]
theorem encU_words (x : Ln) : encU (lnWords x) = encLn x := rfl
theorem lnWords_get (x : Ln) (j : Nat) (h : j < 8) : (lnWords x)[j]? = some (x.get j) := by
  match j, h with
  | 0, _ | 1, _ | 2, _ | 3, _ | 4, _ | 5, _ | 6, _ | 7, _ => rfl
theorem encLn_get (x : Ln) (j : Nat) (h : j < 8) : (encLn x)[j]? = some (.int .u64 (x.get j)) := by rw [← encU_words]; exact encU_get (lnWords_get x j h)
theorem encLn_put (x : Ln) (j : Nat) (v : Int) (h : j < 8) : encLn (x.set j v) = (encLn x).take j ++ [.int .u64 v] ++ (encLn x).drop (j + 1) := by
  match j, h with
  | 0, _ | 1, _ | 2, _ | 3, _ | 4, _ | 5, _ | 6, _ | 7, _ => rfl
theorem Ln.get_set (x : Ln) (j k : Nat) (v : Int) (h : j < 8) : (x.set j v).get k = if k = j then v else x.get k := by
  match j, h with
  | 0, _ | 1, _ | 2, _ | 3, _ | 4, _ | 5, _ | 6, _ | 7, _ =>
    match k with
    | 0 | 1 | 2 | 3 | 4 | 5 | 6 | 7 => simp [Ln.get, Ln.set]
    | n + 8 => simp [Ln.get]; try omega
/-- A word laid at its place. -/
def putL (ls : List Ln) (i j : Nat) (v : Int) : List Ln := match ls[i]? with
  | some x => ls.set i (x.set j v)
  | none => ls
theorem putL_len (ls : List Ln) (i j : Nat) (v : Int) : (putL ls i j v).length = ls.length := by
  unfold putL
  split <;> simp
theorem putL_enc (ls : List Ln) (i j : Nat) (v : Int) (hi : i < ls.length) (hj : j < 8) : (encLns ls).take (i * 8 + j) ++ [.int .u64 v] ++ (encLns ls).drop (i * 8 + j + 1) = encLns (putL ls i j v) := by
  obtain ⟨x, hx⟩ : ∃ x, ls[i]? = some x := ⟨_, List.getElem?_eq_getElem hi⟩
  have hp : putL ls i j v = ls.set i (x.set j v) := by unfold putL; rw [hx]
  rw [hp, ← encLns_set ls i (x.set j v) hi, encLn_put x j v hj]
  have hself : (encLns ls).take (i * 8) ++ encLn x ++ (encLns ls).drop (i * 8 + 8) = encLns ls := by
    rw [encLns_set ls i x hi]
    congr 1
    rw [List.getElem?_eq_getElem hi] at hx
    injection hx with hx
    rw [← hx]
    exact List.set_getElem_self hi
  have hA : ((encLns ls).take (i * 8)).length = i * 8 := by rw [List.length_take, encLns_len]; omega
  have hX : (encLn x).length = 8 := rfl
  obtain ⟨A, hAe⟩ : ∃ A, (encLns ls).take (i * 8) = A := ⟨_, rfl⟩
  obtain ⟨C, hCe⟩ : ∃ C, (encLns ls).drop (i * 8 + 8) = C := ⟨_, rfl⟩
  rw [hAe, hCe] at hself ⊢
  rw [hAe] at hA
  rw [← hself]
  have h1 : (A ++ encLn x ++ C).take (i * 8 + j) = A ++ (encLn x).take j := by
    rw [List.append_assoc, List.take_append, List.take_of_length_le (by omega), hA, show i * 8 + j - i * 8 = j by omega, List.take_append, show j - (encLn x).length = 0 by omega]
    simp
  have h2 : (A ++ encLn x ++ C).drop (i * 8 + j + 1) = (encLn x).drop (j + 1) ++ C := by
    rw [List.append_assoc, List.drop_append, List.drop_of_length_le (by omega), hA, show i * 8 + j + 1 - i * 8 = j + 1 by omega, List.drop_append, show j + 1 - (encLn x).length = 0 by omega]
    simp
  rw [h1, h2]
  simp [List.append_assoc]
/-- The lines with the first k words. -/
def imgN (F nb : Nat) (ms : List Int) : Nat → List Ln
  | 0 => List.replicate nb Ln.zero
  | k + 1 => putL (imgN F nb ms k) (F + k / 8) (k % 8) (ms.getD k 0)
theorem imgN_len (F nb : Nat) (ms : List Int) : ∀ k, (imgN F nb ms k).length = nb
  | 0 => by simp [imgN]
  | k + 1 => by rw [imgN, putL_len, imgN_len F nb ms k]
/-- The words of k lines from the place F on; the first k words from there on. -/
def mapA (F : Nat) (ls : List Ln) : Nat → List Int
  | 0 => []
  | k + 1 => mapA F ls k ++ lnWords (ls.getD (F + k) Ln.zero)
def mapB (F : Nat) (ls : List Ln) : Nat → List Int
  | 0 => []
  | k + 1 => mapB F ls k ++ [(ls.getD (F + k / 8) Ln.zero).get (k % 8)]
theorem mapA_len (F : Nat) (ls : List Ln) : ∀ k, (mapA F ls k).length = 8 * k
  | 0 => rfl
  | k + 1 => by rw [mapA, List.length_append, mapA_len F ls k]; simp [lnWords]; omega
theorem mapB_len (F : Nat) (ls : List Ln) : ∀ k, (mapB F ls k).length = k
  | 0 => rfl
  | k + 1 => by rw [mapB, List.length_append, mapB_len F ls k]; simp
theorem map_same (F : Nat) (ls : List Ln) : ∀ k, mapA F ls k = mapB F ls (8 * k)
  | 0 => rfl
  | k + 1 => by
    rw [mapA, map_same F ls k, show 8 * (k + 1) = 8 * k + 1 + 1 + 1 + 1 + 1 + 1 + 1 + 1 by omega]
    simp only [mapB]
    have d0 : 8 * k / 8 = k ∧ 8 * k % 8 = 0 := by omega
    have d1 : (8 * k + 1) / 8 = k ∧ (8 * k + 1) % 8 = 1 := by omega
    have d2 : (8 * k + 1 + 1) / 8 = k ∧ (8 * k + 1 + 1) % 8 = 2 := by omega
    have d3 : (8 * k + 1 + 1 + 1) / 8 = k ∧ (8 * k + 1 + 1 + 1) % 8 = 3 := by omega
    have d4 : (8 * k + 1 + 1 + 1 + 1) / 8 = k ∧ (8 * k + 1 + 1 + 1 + 1) % 8 = 4 := by omega
    have d5 : (8 * k + 1 + 1 + 1 + 1 + 1) / 8 = k ∧ (8 * k + 1 + 1 + 1 + 1 + 1) % 8 = 5 := by omega
    have d6 : (8 * k + 1 + 1 + 1 + 1 + 1 + 1) / 8 = k ∧ (8 * k + 1 + 1 + 1 + 1 + 1 + 1) % 8 = 6 := by omega
    have d7 : (8 * k + 1 + 1 + 1 + 1 + 1 + 1 + 1) / 8 = k ∧ (8 * k + 1 + 1 + 1 + 1 + 1 + 1 + 1) % 8 = 7 := by omega
    rw [d0.1, d0.2, d1.1, d1.2, d2.1, d2.2, d3.1, d3.2, d4.1, d4.2, d5.1, d5.2, d6.1, d6.2, d7.1, d7.2]
    simp [lnWords, Ln.get]
/-- A word of the image. -/
theorem putL_get (ls : List Ln) (i j i' j' : Nat) (v : Int) (hi : i < ls.length) (hj : j < 8) : ((putL ls i j v).getD i' Ln.zero).get j' = if i' = i ∧ j' = j then v else (ls.getD i' Ln.zero).get j' := by
  obtain ⟨x, hx⟩ : ∃ x, ls[i]? = some x := ⟨_, List.getElem?_eq_getElem hi⟩
  have hp : putL ls i j v = ls.set i (x.set j v) := by unfold putL; rw [hx]
  rw [hp, List.getD_eq_getElem?_getD, List.getD_eq_getElem?_getD, List.getElem?_set]
  by_cases h : i = i'
  · subst h
    simp only [if_true, hi, Option.getD_some, hx, true_and]
    exact Ln.get_set x j j' v hj
  · rw [if_neg h, if_neg (by omega)]
theorem img_get (F nb : Nat) (ms : List Int) : ∀ k, F * 8 + k ≤ nb * 8 → ∀ w, w < k → ((imgN F nb ms k).getD (F + w / 8) Ln.zero).get (w % 8) = ms.getD w 0
  | 0, _, w, h => by omega
  | k + 1, hk, w, h => by
    rw [imgN, putL_get _ _ _ _ _ _ (by rw [imgN_len]; omega) (Nat.mod_lt _ (by omega))]
    by_cases e : w = k
    · subst e
      simp
    · rw [if_neg (by omega)]
      exact img_get F nb ms k (by omega) w (by omega)
/-- The words of an image's lines are it. -/
theorem map_img (F nb : Nat) (ms : List Int) (h : F * 8 + ms.length ≤ nb * 8) : ∀ k, k ≤ ms.length → mapB F (imgN F nb ms ms.length) k = ms.take k
  | 0, _ => by simp [mapB]
  | k + 1, hk => by
    rw [mapB, map_img F nb ms h k (by omega), img_get F nb ms ms.length h k (by omega), List.take_add_one]
    congr 1
    rw [List.getD_eq_getElem?_getD, List.getElem?_eq_getElem (by omega)]
    rfl
end Go.Proofs.Ytejeghfddnbhaaa
