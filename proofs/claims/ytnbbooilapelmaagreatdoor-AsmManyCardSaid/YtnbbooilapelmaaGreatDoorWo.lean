import Derived.Test.YtnbbooilapelmaaGreatDoorNu
import Derived.Laws.RangeAny
/-
  Words of a line, in plain Lean: cut at each blank.
-/
namespace Go.Proofs.YtnbbooilapelmaaGreatDoor
/-- Cut at each blank. -/
def cutL : List UInt8 → List (List UInt8)
  | [] => [[]]
  | c :: r => if c = 32 then [] :: cutL r else (match cutL r with | w :: l => (c :: w) :: l | [] => [[c]])
def mkW (l : List UInt8) : ByteArray := ⟨l.toArray⟩
def wd (s : ByteArray) : List ByteArray := (cutL s.data.toList).map mkW
theorem cutL_ne : ∀ l, cutL l ≠ []
  | [] => by simp [cutL]
  | c :: r => by
    unfold cutL
    split
    · simp
    · split <;> simp
theorem cutL_none : ∀ {a : List UInt8}, 32 ∉ a → cutL a = [a]
  | [], _ => rfl
  | c :: r, h => by
    have h1 : c ≠ 32 := fun e => h (by simp [e])
    have h2 := cutL_none (a := r) (fun e => h (by simp [e]))
    rw [cutL, if_neg h1, h2]
theorem cutL_at : ∀ {a b : List UInt8}, 32 ∉ a → cutL (a ++ 32 :: b) = a :: cutL b
  | [], b, _ => by simp [cutL]
  | c :: r, b, h => by
    have h1 : c ≠ 32 := fun e => h (by simp [e])
    have h2 := cutL_at (a := r) (b := b) (fun e => h (by simp [e]))
    rw [List.cons_append, cutL, if_neg h1, h2]
theorem mkW_list (l : List UInt8) : (mkW l).data.toList = l := by simp [mkW]
theorem mkW_data (s : ByteArray) : mkW s.data.toList = s := ba_ext (mkW_list _)
theorem extract_eq (s : ByteArray) (a b : Nat) : s.extract a b = mkW ((s.data.toList.drop a).take (b - a)) := by
  apply ba_ext
  rw [mkW_list]
  simp [ByteArray.data_extract, List.extract_eq_take_drop]
/-- No blank from here on to there. -/
def noB (s : ByteArray) (a b : Nat) : Prop := ∀ j, a ≤ j → j < b → s.data.toList[j]? ≠ some 32
theorem noB_take {s : ByteArray} {a b : Nat} (h : noB s a b) : 32 ∉ (s.data.toList.drop a).take (b - a) := by
  intro hm
  obtain ⟨j, hj⟩ := List.getElem?_of_mem hm
  have hlt := (List.getElem?_eq_some_iff.1 hj).1
  simp at hlt
  rw [List.getElem?_take_of_lt (by omega), List.getElem?_drop] at hj
  exact h (a + j) (by omega) (by omega) hj
theorem size_list (s : ByteArray) : s.data.toList.length = s.size := Array.length_toList
theorem wd_at {s : ByteArray} {a b : Nat} (hab : a ≤ b) (h : noB s a b) (hb : s.data.toList[b]? = some 32) : (cutL (s.data.toList.drop a)).map mkW = s.extract a b :: (cutL (s.data.toList.drop (b + 1))).map mkW := by
  have hlt := (List.getElem?_eq_some_iff.1 hb).1
  have e : s.data.toList.drop a = (s.data.toList.drop a).take (b - a) ++ 32 :: s.data.toList.drop (b + 1) := by
    conv => lhs; rw [← List.take_append_drop (b - a) (s.data.toList.drop a)]
    congr 1
    rw [List.drop_drop, show a + (b - a) = b by omega]
    rw [List.drop_eq_getElem_cons hlt]
    congr 1
    rw [List.getElem?_eq_getElem hlt] at hb
    exact Option.some.inj hb
  rw [e, cutL_at (noB_take h), List.map_cons, extract_eq]
theorem wd_end {s : ByteArray} {a : Nat} (h : noB s a s.size) : (cutL (s.data.toList.drop a)).map mkW = [s.extract a s.size] := by
  have e : (s.data.toList.drop a).take (s.size - a) = s.data.toList.drop a := List.take_of_length_le (by rw [List.length_drop, size_list]; omega)
  have h2 := noB_take h
  rw [e] at h2
  rw [cutL_none h2, extract_eq, e]; rfl
/-- What a character takes, it takes of bytes that are no blank, or it is one byte. -/
theorem decode_skip {s : ByteArray} {i : Nat} (h : i < s.size) : i + (Utf8.decode s i).2 ≤ s.size ∧ 1 ≤ (Utf8.decode s i).2 ∧ ∀ j, i < j → j < i + (Utf8.decode s i).2 → 128 ≤ (s.get! j).toNat := by
  have one : i + 1 ≤ s.size ∧ 1 ≤ 1 ∧ ∀ j, i < j → j < i + 1 → 128 ≤ (s.get! j).toNat := ⟨h, Nat.le_refl _, fun j h1 h2 => by omega⟩
  have ct : ∀ k, (decide (i + k < s.size) && (s.get! (i + k)).toNat / 64 == 2) = true → i + k < s.size ∧ 128 ≤ (s.get! (i + k)).toNat := fun k hk => by
    simp only [Bool.and_eq_true, decide_eq_true_eq, beq_iff_eq] at hk
    omega
  simp only [Utf8.decode]
  split
  · exact one
  · split
    · rename_i h1
      simp only [Bool.and_eq_true (_ == _)] at h1
      have c1 := ct 1 (by simp only [Bool.and_eq_true] at h1 ⊢; exact h1.2)
      split
      · refine ⟨by dsimp only; omega, by dsimp only; omega, fun j h2 h3 => ?_⟩
        have : j = i + 1 := by dsimp only at h3; omega
        rw [this]; exact c1.2
      · exact one
    · split
      · rename_i h1
        have c1 := ct 1 (by simp only [Bool.and_eq_true] at h1 ⊢; exact h1.1.2)
        have c2 := ct 2 (by simp only [Bool.and_eq_true] at h1 ⊢; exact h1.2)
        split
        · refine ⟨by dsimp only; omega, by dsimp only; omega, fun j h2 h3 => ?_⟩
          have : j = i + 1 ∨ j = i + 2 := by dsimp only at h3; omega
          rcases this with rfl | rfl
          · exact c1.2
          · exact c2.2
        · exact one
      · split
        · rename_i h1
          have c1 := ct 1 (by simp only [Bool.and_eq_true] at h1 ⊢; exact h1.1.1.2)
          have c2 := ct 2 (by simp only [Bool.and_eq_true] at h1 ⊢; exact h1.1.2)
          have c3 := ct 3 (by simp only [Bool.and_eq_true] at h1 ⊢; exact h1.2)
          split
          · refine ⟨by dsimp only; omega, by dsimp only; omega, fun j h2 h3 => ?_⟩
            have : j = i + 1 ∨ j = i + 2 ∨ j = i + 3 := by dsimp only at h3; omega
            rcases this with rfl | rfl | rfl
            · exact c1.2
            · exact c2.2
            · exact c3.2
          · exact one
        · exact one
theorem byte_at {s : ByteArray} {j : Nat} (h : j < s.size) : s.data.toList[j]? = some (s.get! j) ∧ s[j]'h = s.get! j := by
  have h2 : s[j]'h = s.get! j := by simp [ByteArray.get!, getElem!_pos, h]; rfl
  refine ⟨?_, h2⟩
  rw [← h2, List.getElem?_eq_getElem (by rw [size_list]; exact h)]
  rfl
/-- Is it a blank? -/
theorem rune_blank {s : ByteArray} {i : Nat} (h : i < s.size) : ((Utf8.decode s i).1 = 32 ↔ s.data.toList[i]? = some 32) ∧ (s.data.toList[i]? = some 32 → (Utf8.decode s i).2 = 1) := by
  obtain ⟨h1, h2⟩ := byte_at h
  rw [h1]
  by_cases ha : (s[i]'h).toNat < 128
  · rw [decode_ascii s i h ha]
    refine ⟨⟨fun e => ?_, fun e => ?_⟩, fun _ => rfl⟩
    · dsimp only at e
      rw [h2] at e
      congr 1
      exact UInt8.toNat_inj.1 (by rw [e]; rfl)
    · dsimp only
      rw [h2, Option.some.inj e]; rfl
  · have := decode_high s i h (by omega)
    rw [h2] at ha
    refine ⟨⟨fun e => by omega, fun e => ?_⟩, fun e => ?_⟩
    · rw [Option.some.inj e] at ha; exact absurd (by decide) ha
    · rw [Option.some.inj e] at ha; exact absurd (by decide) ha
theorem noB_skip {s : ByteArray} {a i : Nat} (h : i < s.size) (hn : noB s a i) (hb : (Utf8.decode s i).1 ≠ 32) : noB s a (i + (Utf8.decode s i).2) := by
  intro j h1 h2 h3
  rcases Nat.lt_trichotomy j i with h4 | rfl | h4
  · exact hn j h1 h4 h3
  · exact hb ((rune_blank h).1.2 h3)
  · obtain ⟨k1, k2, k3⟩ := decode_skip h
    have hj : j < s.size := by omega
    have := k3 j h4 h2
    rw [(byte_at hj).1] at h3
    rw [Option.some.inj h3] at this
    exact absurd this (by decide)
end Go.Proofs.YtnbbooilapelmaaGreatDoor
