/-
  A transaction of writes and reads alone, done again, changes nothing: plain laws.
-/
import Derived.Test.YtigbhlkafmpgmaaAlls
namespace Go.Proofs.Ytigbhlkafmpgmaa
open Go.RowKit Go.Maps
/-- Only reads and writes. -/
def plainT (l : List Op) : Bool := l.all fun o => decide (o.k = 1 ∨ o.k = 2)
def applyT : List Op → List Int → List Int
  | [], x => x
  | o :: r, x => applyT r (if o.k = 1 then x else x.set o.w.toNat o.v)
theorem applyT_len : ∀ (l : List Op) (x : List Int), (applyT l x).length = x.length
  | [], _ => rfl
  | o :: r, x => by
    rw [applyT, applyT_len r]
    split <;> simp
/-- What the last write of all says of a word, if there is one. -/
def lastT (i : Nat) : List Op → Option Int → Option Int
  | [], y => y
  | o :: r, y => lastT i r (if o.k = 1 then y else if o.w.toNat = i then some o.v else y)
theorem applyT_get (i : Nat) : ∀ (l : List Op) (x : List Int) (y : Option Int) (m : List Int), i < x.length → x[i]? = (match y with | some v => some v | none => m[i]?) → (applyT l x)[i]? = (match lastT i l y with | some v => some v | none => m[i]?)
  | [], x, y, m, _, h => h
  | o :: r, x, y, m, hi, h => by
    rw [applyT, lastT]
    by_cases h1 : o.k = 1
    · rw [if_pos h1, if_pos h1]
      exact applyT_get i r x y m hi h
    · rw [if_neg h1, if_neg h1]
      refine applyT_get i r _ _ m (by rw [List.length_set]; exact hi) ?_
      by_cases h2 : o.w.toNat = i
      · subst h2
        rw [if_pos rfl, List.getElem?_set_self hi]
      · rw [if_neg h2, List.getElem?_set_ne h2]
        exact h
theorem lastT_none (i : Nat) : ∀ (l : List Op) (y : Option Int), lastT i l none = none → lastT i l y = y
  | [], y, _ => rfl
  | o :: r, y, h => by
    rw [lastT] at h ⊢
    by_cases h1 : o.k = 1
    · rw [if_pos h1] at h ⊢
      exact lastT_none i r y h
    · rw [if_neg h1] at h ⊢
      by_cases h2 : o.w.toNat = i
      · rw [if_pos h2] at h
        exfalso
        exact lastT_some i r _ h
      · rw [if_neg h2] at h ⊢
        exact lastT_none i r y h
where
  lastT_some (i : Nat) : ∀ (l : List Op) (v : Int), lastT i l (some v) = none → False
  | [], v, h => by cases h
  | o :: r, v, h => by
    rw [lastT] at h
    split at h
    · exact lastT_some i r v h
    · split at h
      · exact lastT_some i r _ h
      · exact lastT_some i r v h
theorem lastT_some_any (i : Nat) : ∀ (l : List Op) (v : Int) (y : Option Int), lastT i l none = some v → lastT i l y = some v
  | [], v, y, h => by cases h
  | o :: r, v, y, h => by
    rw [lastT] at h ⊢
    by_cases h1 : o.k = 1
    · rw [if_pos h1] at h ⊢
      exact lastT_some_any i r v y h
    · rw [if_neg h1] at h ⊢
      by_cases h2 : o.w.toNat = i
      · rw [if_pos h2] at h ⊢
        exact h
      · rw [if_neg h2] at h ⊢
        exact lastT_some_any i r v y h
theorem applyT_twice (l : List Op) (x : List Int) : applyT l (applyT l x) = applyT l x := by
  refine List.ext_getElem? fun i => ?_
  rcases Nat.lt_or_ge i x.length with hi | hi
  · have h1 := applyT_get i l x none x hi rfl
    have h2 := applyT_get i l (applyT l x) none (applyT l x) (by rw [applyT_len]; exact hi) rfl
    rw [h2]
    cases hl : lastT i l none with
    | some v => rw [hl] at h1; exact h1.symm
    | none => rfl
  · rw [List.getElem?_eq_none (by rw [applyT_len, applyT_len]; exact hi), List.getElem?_eq_none (by rw [applyT_len]; exact hi)]
/-- A run that went through, of reads and writes alone, is their application. -/
theorem runS_plain (room : Int) (len : Nat) : ∀ (l : List Op) (cur : List Int) (n : Nat) (tells : List Int), plainT l = true → (runS room len l cur n tells).1 = 0 → (runS room len l cur n tells).2.1 = applyT l cur
  | [], _, _, _, _, _ => rfl
  | o :: r, cur, n, tells, hp, h => by
    obtain ⟨hp1, hp2⟩ : (o.k = 1 ∨ o.k = 2) ∧ plainT r = true := by simpa [plainT] using hp
    by_cases hw : o.w < 0 ∨ (len : Int) ≤ o.w
    · rw [runS, if_pos hw] at h
      cases h
    · cases hs : (stepS room cur n tells o).1 with
      | false => rw [runS_full room len o r cur n tells hw hs] at h; cases h
      | true =>
        rw [runS_step room len o r cur n tells hw hs] at h ⊢
        rw [runS_plain room len r _ _ _ hp2 h, applyT]
        congr 1
        rcases hp1 with h1 | h1
        · rw [if_pos h1, stepS, if_pos h1]
        · rw [if_neg (by omega)]
          unfold stepS at hs ⊢
          rw [if_neg (by omega), if_neg (by omega)] at hs ⊢
          by_cases hr : room ≤ n
          · rw [if_pos hr] at hs; cases hs
          · rw [if_neg hr, if_pos h1]
/-- How many notes plain Ops want does not hang on the words: one that went through goes through again. -/
theorem runS_again (room : Int) (len : Nat) : ∀ (l : List Op) (cur cur' : List Int) (n : Nat) (tells tells' : List Int), plainT l = true → (runS room len l cur n tells).1 = 0 → (runS room len l cur' n tells').1 = 0
  | [], _, _, _, _, _, _, _ => rfl
  | o :: r, cur, cur', n, tells, tells', hp, h => by
    obtain ⟨hp1, hp2⟩ : (o.k = 1 ∨ o.k = 2) ∧ plainT r = true := by simpa [plainT] using hp
    by_cases hw : o.w < 0 ∨ (len : Int) ≤ o.w
    · rw [runS, if_pos hw] at h
      cases h
    · cases hs : (stepS room cur n tells o).1 with
      | false => rw [runS_full room len o r cur n tells hw hs] at h; cases h
      | true =>
        rw [runS_step room len o r cur n tells hw hs] at h
        have hn : (stepS room cur' n tells' o).1 = true ∧ (stepS room cur' n tells' o).2.2.1 = (stepS room cur n tells o).2.2.1 := by
          rcases hp1 with h1 | h1
          · simp [stepS, h1]
          · have h2 : ¬ o.k = 1 := by omega
            have h4 : ¬ o.k = 4 := by omega
            unfold stepS at hs ⊢
            rw [if_neg h2, if_neg (fun h => h4 h.1)] at hs
            by_cases hr : room ≤ n
            · rw [if_pos hr] at hs; cases hs
            · rw [if_neg h2, if_neg (fun h => h4 h.1), if_neg hr, if_pos h1, if_neg h2, if_neg (fun h => h4 h.1), if_neg hr, if_pos h1]
              exact ⟨rfl, rfl⟩
        rw [runS_step room len o r cur' n tells' hw hn.1, hn.2]
        exact runS_again room len r _ _ _ _ _ hp2 h
theorem runS_tells (room : Int) (len : Nat) : ∀ (l : List Op) (cur : List Int) (n : Nat) (tells : List Int), (runS room len l cur n tells).2.2.length ≤ tells.length + l.length
  | [], _, _, _ => by simp [runS]
  | o :: r, cur, n, tells => by
    by_cases hw : o.w < 0 ∨ (len : Int) ≤ o.w
    · rw [runS, if_pos hw]; simp
    · have hl := stepS_len room cur n tells o
      cases hs : (stepS room cur n tells o).1 with
      | false => rw [runS_full room len o r cur n tells hw hs]; simp; omega
      | true =>
        rw [runS_step room len o r cur n tells hw hs]
        have := runS_tells room len r (stepS room cur n tells o).2.1 (stepS room cur n tells o).2.2.1 (stepS room cur n tells o).2.2.2
        simp only [List.length_cons]
        omega
theorem runS_code (room : Int) (len : Nat) : ∀ (l : List Op) (cur : List Int) (n : Nat) (tells : List Int), (runS room len l cur n tells).1 = 0 ∨ (runS room len l cur n tells).1 = 102 ∨ (runS room len l cur n tells).1 = 103
  | [], _, _, _ => Or.inl rfl
  | o :: r, cur, n, tells => by
    by_cases hw : o.w < 0 ∨ (len : Int) ≤ o.w
    · rw [runS, if_pos hw]; exact Or.inr (Or.inr rfl)
    · cases hs : (stepS room cur n tells o).1 with
      | false => rw [runS_full room len o r cur n tells hw hs]; exact Or.inr (Or.inl rfl)
      | true => rw [runS_step room len o r cur n tells hw hs]; exact runS_code room len r _ _ _
theorem runS_len (room : Int) (len : Nat) : ∀ (l : List Op) (cur : List Int) (n : Nat) (tells : List Int), (runS room len l cur n tells).2.1.length = cur.length
  | [], _, _, _ => rfl
  | o :: r, cur, n, tells => by
    have hl : (stepS room cur n tells o).2.1.length = cur.length := by
      unfold stepS
      repeat' split
      all_goals simp
    by_cases hw : o.w < 0 ∨ (len : Int) ≤ o.w
    · rw [runS, if_pos hw]
    · cases hs : (stepS room cur n tells o).1 with
      | false => rw [runS_full room len o r cur n tells hw hs]; exact hl
      | true => rw [runS_step room len o r cur n tells hw hs, runS_len room len r]; exact hl
/-- Committed once, and again: the same words. -/
theorem ranS_twice (m : List Int) (room : Int) (ops : List Op) (ab : Bool) (hp : plainT ops = true) (hc : (ranS m room ops ab).1 = 101) : (ranS (ranS m room ops ab).2.1 room ops ab).2.1 = (ranS m room ops ab).2.1 := by
  unfold ranS at hc ⊢
  simp only at hc ⊢
  have h0 : (runS room m.length ops m 0 []).1 = 0 := by
    rcases runS_code room m.length ops m 0 [] with h | h | h
    · exact h
    · rw [h] at hc; cases hc
    · rw [h] at hc; cases hc
  have ho : outS (runS room m.length ops m 0 []).1 ab m (runS room m.length ops m 0 []).2.1 = applyT ops m := by
    unfold outS
    rw [if_pos hc, runS_plain room m.length ops m 0 [] hp h0]
  rw [ho]
  have hl : (applyT ops m).length = m.length := applyT_len ops m
  rw [hl]
  have h1 := runS_again room m.length ops m (applyT ops m) 0 [] [] hp h0
  have h2 := runS_plain room m.length ops (applyT ops m) 0 [] hp h1
  unfold outS
  rw [h1, h2, applyT_twice]
  rw [h0] at hc
  rw [if_pos hc]
theorem ranS_code (m : List Int) (room : Int) (ops : List Op) (ab : Bool) : 101 ≤ (ranS m room ops ab).1 ∧ (ranS m room ops ab).1 ≤ 104 ∧ ((ranS m room ops ab).1 = 101 → ab = false) := by
  unfold ranS endC
  rcases runS_code room m.length ops m 0 [] with h | h | h <;> rw [h] <;> cases ab <;> simp
theorem ranS_back (m : List Int) (room : Int) (ops : List Op) (ab : Bool) (h : ¬ (ranS m room ops ab).1 = 101) : (ranS m room ops ab).2.1 = m := by
  unfold ranS outS at *
  rw [if_neg h]
theorem ranS_len (m : List Int) (room : Int) (ops : List Op) (ab : Bool) : (ranS m room ops ab).2.1.length = m.length := by
  unfold ranS outS
  split
  · exact runS_len room m.length ops m 0 []
  · rfl
theorem ranS_tells (m : List Int) (room : Int) (ops : List Op) (ab : Bool) : (ranS m room ops ab).2.2.length ≤ ops.length + 1 ∧ ∃ t, (ranS m room ops ab).2.2 = t ++ [(ranS m room ops ab).1] := by
  unfold ranS
  have := runS_tells room m.length ops m 0 []
  refine ⟨?_, _, rfl⟩
  simp at this ⊢
  exact this
end Go.Proofs.Ytigbhlkafmpgmaa
