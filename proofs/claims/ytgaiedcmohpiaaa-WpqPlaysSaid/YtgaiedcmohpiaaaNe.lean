import Derived.KernelRfl
import Derived.Test.YtgaiedcmohpiaaaNd
namespace Go.Proofs.Ytgaiedcmohpiaaa.V
open Go.RowKit Go.Proofs.Ytgaiedcmohpiaaa
set_option linter.unusedSimpArgs false
abbrev L6 : List (Nat × Spec) := (22, .full rpush1.call) :: (24, .full rqread1.call) :: L5
theorem L6_all : ∀ p ∈ L6, Valid Try.prog p.1 p.2 := vcons v22 (vcons v24 L5_all)
theorem L6_ok : ∀ f S, spL L6 f = some S → Valid Try.prog f S := spL_ok L6_all
/-- What a drain of a line leaves. -/
def drE (es : List EN) (line : Int) : List EN := es.eraseIdx (es.findIdx fun x => x.1 == line)
def drL (es : List EN) (ls : List LN) (line : Int) : List LN := match es.find? fun x => x.1 == line with | some x => wrD ls line x.2 | none => ls
def drA (es : List EN) (line : Int) : Int := match es.find? fun x => x.1 == line with | some _ => 0 | none => 14
theorem fnd_some {es : List EN} {k : Nat} {y : EN} {line : Int} (h : ∀ (j : Nat) (x : EN), j < k → es[j]? = some x → (x.1 == line) = false) (hy : es[k]? = some y) (he : (y.1 == line) = true) : es.find? (fun x => x.1 == line) = some y ∧ es.findIdx (fun x => x.1 == line) = k := by
  induction es generalizing k with
  | nil => cases hy
  | cons x r ih =>
    cases k with
    | zero =>
      obtain rfl : x = y := by simpa using hy
      simp [List.find?_cons, List.findIdx_cons, he]
    | succ k =>
      have hx := h 0 x (by omega) rfl
      obtain ⟨i1, i2⟩ := ih (k := k) (fun j z hj hz => h (j + 1) z (by omega) (by simpa using hz)) (by simpa using hy)
      simp [List.find?_cons, List.findIdx_cons, hx, i1, i2]
theorem fnd_none {es : List EN} {line : Int} (h : ∀ (j : Nat) (x : EN), es[j]? = some x → (x.1 == line) = false) : es.find? (fun x => x.1 == line) = none ∧ es.findIdx (fun x => x.1 == line) = es.length := by
  induction es with
  | nil => exact ⟨rfl, rfl⟩
  | cons x r ih =>
    have hx := h 0 x rfl
    obtain ⟨i1, i2⟩ := ih (fun j z hz => h (j + 1) z (by simpa using hz))
    simp [List.find?_cons, List.findIdx_cons, hx, i1, i2]
def rdrain1 : PT where
  ps := [.one (.p 0 0), .one I]
  rg := rqR
  na := 4
  rs := [.one I]
  out := rqN
  nx := 5
  pre := fun (_, _, _, es, _, _) => es.length ≤ 16
  post := fun (line, room, vol, es, ls, _) (e, room', vol', es', ls', _) => e = drA es line ∧ room' = room ∧ vol' = vol ∧ es' = drE es line ∧ ls' = drL es ls line
abbrev lp25 (line room vol : Int) (es : List EN) (ls : List LN) : Nat → Option LoopSp := fun _ => some { X := Nat, sl := fun k => [(0, .one (.ptr 0 0)), (1, .one (vi line)), (5, .one (vi k))], h := fun _ => rqH room vol es ls, nx := 4, inv := fun k => k ≤ es.length ∧ ∀ (j : Nat) (x : EN), j < k → es[j]? = some x → (x.1 == line) = false, mu := fun k => es.length - k }
theorem v25 : Valid Try.prog 25 (.full rdrain1.call) := by
  refine valid_P mixed Tbl_ok L6_ok Try.func25 call25 ?_
  intro (line : Int) (room : Int) (vol : Int) (es : List EN) (ls : List LN) hp hr hh
  refine ⟨lp25 line room vol es ls, ?_⟩
  refine Eq.mp (by kernel_rfl : ((∃ (x : Nat), (x ≤ es.length ∧ ∀ (j : Nat) (x_1 : EN), j < x → es[j]? = some x_1 → (x_1.fst == line) = false) ∧ line = line ∧ (0 : Int) = (↑x : Int) ∧ room = room ∧ vol = vol ∧ es ≍ es ∧ ls ≍ ls ∧ True) ∧ ∀ (x : Nat), (x ≤ es.length ∧ ∀ (j : Nat) (x_1 : EN), j < x → es[j]? = some x_1 → (x_1.fst == line) = false) → (decide ((↑x : Int) < (↑es.length : Int)) = true → ((0 : Int) ≤ (↑x : Int) ∧ (↑x : Int) < (↑es.length : Int)) ∧ (↑x : Int).toNat < es.length ∧ ∀ (y : Int × List Int), es[(↑x : Int).toNat]? = some y → ((y.fst == line) = true → ((0 : Int) ≤ (↑x : Int) ∧ (↑x : Int) < (↑es.length : Int)) ∧ (↑x : Int).toNat < es.length ∧ ∀ (y : Int × List Int), es[(↑x : Int).toNat]? = some y → True ∧ ∀ (x_1 x_2 : Int) (x_3 : List (List Int)), x_1 = mayD ls.length line ∧ x_2 = vol ∧ x_3 = wrD ls line y.snd → ((0 : Int) ≤ (↑x : Int) ∧ (↑x : Int) ≤ (↑es.length : Int)) ∧ ((-9223372036854775808 : Int) ≤ (↑x : Int) + (1 : Int) ∧ (↑x : Int) + (1 : Int) ≤ (9223372036854775807 : Int)) ∧ ((0 : Int) ≤ (↑x : Int) + (1 : Int) ∧ (↑x : Int) + (1 : Int) ≤ (↑es.length : Int)) ∧ (0 : Nat) + (↑x : Int).toNat ≤ es.length ∧ (([] : List (Int × List Int)).length + (List.take (↑x : Int).toNat (List.drop (0 : Nat) es)).length) * (72 : Nat) ≤ (140737488355328 : Nat) ∧ ((↑x : Int) + (1 : Int)).toNat + (es.length - ((↑x : Int) + (1 : Int)).toNat) ≤ es.length ∧ ((([] : List (Int × List Int)) ++ List.take (↑x : Int).toNat (List.drop (0 : Nat) es)).length + (List.take (es.length - ((↑x : Int) + (1 : Int)).toNat) (List.drop ((↑x : Int) + (1 : Int)).toNat es)).length) * (72 : Nat) ≤ (140737488355328 : Nat) ∧ ∃ (x_4 : Int), ∃ (x_5 : Int), ∃ (x_6 : Int), ∃ (x_7 : List (Int × List Int)), ∃ (x_8 : List (List Int)), ((0 : Int) = x_4 ∧ room = x_5 ∧ x_2 = x_6 ∧ ([] : List (Int × List Int)) ++ List.take (↑x : Int).toNat (List.drop (0 : Nat) es) ++ List.take (es.length - ((↑x : Int) + (1 : Int)).toNat) (List.drop ((↑x : Int) + (1 : Int)).toNat es) ≍ x_7 ∧ x_3 ≍ x_8 ∧ True) ∧ x_4 = drA es line ∧ x_5 = room ∧ x_6 = vol ∧ x_7 = drE es line ∧ x_8 = drL es ls line) ∧ ((y.fst == line) = false → ((-9223372036854775808 : Int) ≤ (↑x : Int) + (1 : Int) ∧ (↑x : Int) + (1 : Int) ≤ (9223372036854775807 : Int)) ∧ ∃ (y : Nat), (y ≤ es.length ∧ ∀ (j : Nat) (x : EN), j < y → es[j]? = some x → (x.fst == line) = false) ∧ es.length - y < es.length - x ∧ line = line ∧ (↑x : Int) + (1 : Int) = (↑y : Int) ∧ room = room ∧ vol = vol ∧ es ≍ es ∧ ls ≍ ls ∧ True)) ∧ (decide ((↑x : Int) < (↑es.length : Int)) = false → ∃ (x : Int), ∃ (x_1 : Int), ∃ (x_2 : Int), ∃ (x_3 : List (Int × List Int)), ∃ (x_4 : List (List Int)), ((14 : Int) = x ∧ room = x_1 ∧ vol = x_2 ∧ es ≍ x_3 ∧ ls ≍ x_4 ∧ True) ∧ x = drA es line ∧ x_1 = room ∧ x_2 = vol ∧ x_3 = drE es line ∧ x_4 = drL es ls line)) = _) ?_
  have hp : es.length ≤ 16 := hp
  refine ⟨⟨0, ⟨by omega, fun j x hj => by omega⟩, rfl, rfl, rfl, rfl, HEq.rfl, HEq.rfl, trivial⟩, fun k hk => ⟨fun h1 => ?_, fun h1 => ?_⟩⟩
  · simp only [decide_eq_true_eq] at h1
    refine ⟨by omega, by omega, fun y hy => ⟨fun he => ⟨by omega, by omega, fun z hz => ⟨trivial, ?_⟩⟩, fun he => ⟨by omega, k + 1, ⟨by omega, fun j x hj hx => ?_⟩, by omega, rfl, rfl, rfl, rfl, HEq.rfl, HEq.rfl, trivial⟩⟩⟩
    · rw [Int.toNat_natCast] at hy hz
      rw [hy] at hz
      cases hz
      obtain ⟨f1, f2⟩ := fnd_some hk.2 hy he
      rintro _ (vol : Int) (l1 : List LN) ⟨rfl, rfl, rfl⟩
      rw [show ((k : Int) + 1).toNat = k + 1 by omega, Int.toNat_natCast]
      refine ⟨by omega, by omega, by omega, by omega, by simp; omega, by omega, by simp; omega, _, _, _, _, _, ⟨rfl, rfl, rfl, HEq.rfl, HEq.rfl, trivial⟩, ?_, rfl, rfl, ?_, ?_⟩
      · simp [drA, f1]
      · simp only [drE, f2, List.eraseIdx_eq_take_drop_succ, List.nil_append, List.drop_zero]
        rw [List.take_of_length_le (l := List.drop (k + 1) es) (by simp)]
      · simp [drL, f1]
    · rw [Int.toNat_natCast] at hy
      by_cases hjk : j = k
      · subst hjk; rw [hy] at hx; cases hx; exact he
      · exact hk.2 j x (by omega) hx
  · simp only [decide_eq_false_iff_not] at h1
    obtain ⟨f1, f2⟩ := fnd_none (es := es) (line := line) fun j x hx => hk.2 j x (by have := (List.getElem?_eq_some_iff.1 hx).1; omega) hx
    refine ⟨_, _, _, _, _, ⟨rfl, rfl, rfl, HEq.rfl, HEq.rfl, trivial⟩, ?_, rfl, rfl, ?_, ?_⟩
    · simp [drA, f1]
    · rw [drE, f2, List.eraseIdx_of_length_le (Nat.le_refl _)]
    · simp [drL, f1]
def rlines1 : PT where
  ps := [.one (.p 0 0)]
  rg := rqR
  na := 4
  rs := [.one (.s 4)]
  out := rqR ++ [(4, .own 3 (.int .i64))]
  nx := 5
  pre := fun (_, _, es, _, _) => es.length ≤ 16
  post := fun (room, vol, es, ls, _) (room', vol', es', ls', a, _) => room' = room ∧ vol' = vol ∧ es' = es ∧ ls' = ls ∧ a = es.map Prod.fst
abbrev lp31 (room vol : Int) (es : List EN) (ls : List LN) : Nat → Option LoopSp := fun _ => some { X := Nat, sl := fun k => [(0, .one (.ptr 0 0)), (3, .one (.sl 4)), (4, .one (vi k))], h := fun k => rqH room vol es ls ++ [(4, .own 3 (.int .i64) ((es.take k).map Prod.fst))], nx := 5, inv := fun k => k ≤ es.length, mu := fun k => es.length - k }
theorem v31 : Valid Try.prog 31 (.full rlines1.call) := by
  refine valid_P mixed Tbl_ok L6_ok Try.func31 call31 ?_
  intro (room : Int) (vol : Int) (es : List EN) (ls : List LN) hp hr hh
  refine ⟨lp31 room vol es ls, ?_⟩
  refine Eq.mp (by kernel_rfl : ((∃ (x : Nat), x ≤ es.length ∧ (0 : Int) = (↑x : Int) ∧ room = room ∧ vol = vol ∧ es ≍ es ∧ ls ≍ ls ∧ List.map (fun (self : Int × LN) => self.1) (List.take x es) = ([] : List Int) ∧ True) ∧ ∀ (x : Nat), x ≤ es.length → (decide ((↑x : Int) < (↑es.length : Int)) = true → ((0 : Int) ≤ (↑x : Int) ∧ (↑x : Int) < (↑es.length : Int)) ∧ (↑x : Int).toNat < es.length ∧ ∀ (y : Int × List Int), es[(↑x : Int).toNat]? = some y → ((List.map (fun (self : Int × LN) => self.1) (List.take x es)).length + (y.fst :: ([] : List Int)).length) * (8 : Nat) ≤ (140737488355328 : Nat) ∧ ((-9223372036854775808 : Int) ≤ (↑x : Int) + (1 : Int) ∧ (↑x : Int) + (1 : Int) ≤ (9223372036854775807 : Int)) ∧ ∃ (y_1 : Nat), y_1 ≤ es.length ∧ es.length - y_1 < es.length - x ∧ (↑x : Int) + (1 : Int) = (↑y_1 : Int) ∧ room = room ∧ vol = vol ∧ es ≍ es ∧ ls ≍ ls ∧ List.map (fun (self : Int × LN) => self.1) (List.take x es) ++ y.fst :: ([] : List Int) ≍ List.map (fun (self : Int × LN) => self.1) (List.take y_1 es) ∧ True) ∧ (decide ((↑x : Int) < (↑es.length : Int)) = false → ∃ (x_1 : Int), ∃ (x_2 : Int), ∃ (x_3 : List (Int × List Int)), ∃ (x_4 : List (List Int)), ∃ (x_5 : List Int), (room = x_1 ∧ vol = x_2 ∧ es ≍ x_3 ∧ ls ≍ x_4 ∧ List.map (fun (self : Int × LN) => self.1) (List.take x es) ≍ x_5 ∧ True) ∧ x_1 = room ∧ x_2 = vol ∧ x_3 = es ∧ x_4 = ls ∧ x_5 = List.map (fun (self : Int × List Int) => self.1) es)) = _) ?_
  have hp : es.length ≤ 16 := hp
  refine ⟨⟨0, by omega, rfl, rfl, rfl, HEq.rfl, HEq.rfl, rfl, trivial⟩, fun k hk => ⟨fun h1 => ?_, fun h1 => ?_⟩⟩
  · simp only [decide_eq_true_eq] at h1
    refine ⟨by omega, by omega, fun y hy => ?_⟩
    rw [Int.toNat_natCast] at hy
    refine ⟨by simp; omega, by omega, k + 1, by omega, by omega, rfl, rfl, rfl, HEq.rfl, HEq.rfl, ?_, trivial⟩
    rw [List.take_add_one, hy]
    simp
  · simp only [decide_eq_false_iff_not] at h1
    rw [List.take_of_length_le (by omega)]
    exact ⟨_, _, _, _, _, ⟨rfl, rfl, HEq.rfl, HEq.rfl, HEq.rfl, trivial⟩, rfl, rfl, rfl, rfl, rfl⟩
def rqfail1 : PT where
  ps := [.one (.p 0 0)]
  rg := rqR
  na := 4
  rs := []
  out := rqN
  nx := 5
  pre := fun (_, vol, es, ls, _) => qIn es ls.length ∧ 0 ≤ vol ∧ vol ≤ ls.length
  post := fun (room, vol, es, ls, _) (room', vol', es', ls', _) => room' = room ∧ vol' = vol ∧ es' = [] ∧ ls' = failD vol (qimg es ls)
abbrev lp26 (room vol : Int) (es : List EN) (ls : List LN) : Nat → Option LoopSp := fun _ => some { X := Nat, sl := fun k => [(0, .one (.ptr 0 0)), (2, .one (vi k))], h := fun k => rqH room vol es (qimg (es.take k) ls), nx := 4, inv := fun k => k ≤ es.length, mu := fun k => es.length - k }
theorem v26 : Valid Try.prog 26 (.full rqfail1.call) := by
  refine valid_P mixed Tbl_ok L6_ok Try.func26 call26 ?_
  intro (room : Int) (vol : Int) (es : List EN) (ls : List LN) hp hr hh
  refine ⟨lp26 room vol es ls, ?_⟩
  refine Eq.mp (by kernel_rfl : ((∃ (x : Nat), x ≤ es.length ∧ (0 : Int) = (↑x : Int) ∧ room = room ∧ vol = vol ∧ es ≍ es ∧ ls ≍ qimg (List.take x es) ls ∧ True) ∧ ∀ (x : Nat), x ≤ es.length → (decide ((↑x : Int) < (↑es.length : Int)) = true → (((0 : Int) ≤ (↑x : Int) ∧ (↑x : Int) < (↑es.length : Int)) ∧ ((↑x : Int).toNat < es.length ∧ ∀ (y : Int × List Int), es[(↑x : Int).toNat]? = some y → ((0 : Int) ≤ (↑x : Int) ∧ (↑x : Int) < (↑es.length : Int)) ∧ (↑x : Int).toNat < es.length ∧ ∀ (y_1 : Int × List Int), es[(↑x : Int).toNat]? = some y_1 → True ∧ ∀ (x_1 x_2 : Int) (x_3 : List (List Int)), x_1 = mayD (qimg (List.take x es) ls).length y.fst ∧ x_2 = vol ∧ x_3 = wrD (qimg (List.take x es) ls) y.fst y_1.snd → ((-9223372036854775808 : Int) ≤ (↑x : Int) + (1 : Int) ∧ (↑x : Int) + (1 : Int) ≤ (9223372036854775807 : Int)) ∧ ∃ (y : Nat), y ≤ es.length ∧ es.length - y < es.length - x ∧ (↑x : Int) + (1 : Int) = (↑y : Int) ∧ room = room ∧ x_2 = vol ∧ es ≍ es ∧ x_3 ≍ qimg (List.take y es) ls ∧ True) ∧ ((0 : Int) ≤ (↑x : Int) ∧ (↑x : Int) < (↑es.length : Int)) ∧ ((↑x : Int).toNat < es.length ∧ ∀ (y : Int × List Int), es[(↑x : Int).toNat]? = some y → (↑x : Int).toNat < es.length ∧ ∀ (y_1 : Int × List Int), es[(↑x : Int).toNat]? = some y_1 → True ∧ ∀ (x_1 x_2 : Int) (x_3 : List (List Int)), x_1 = mayD (qimg (List.take x es) ls).length y.fst ∧ x_2 = vol ∧ x_3 = wrD (qimg (List.take x es) ls) y.fst y_1.snd → ((-9223372036854775808 : Int) ≤ (↑x : Int) + (1 : Int) ∧ (↑x : Int) + (1 : Int) ≤ (9223372036854775807 : Int)) ∧ ∃ (y : Nat), y ≤ es.length ∧ es.length - y < es.length - x ∧ (↑x : Int) + (1 : Int) = (↑y : Int) ∧ room = room ∧ x_2 = vol ∧ es ≍ es ∧ x_3 ≍ qimg (List.take y es) ls ∧ True) ∧ (↑x : Int).toNat < es.length ∧ ∀ (y : Int × List Int), es[(↑x : Int).toNat]? = some y → (↑x : Int).toNat < es.length ∧ ∀ (y_1 : Int × List Int), es[(↑x : Int).toNat]? = some y_1 → True ∧ ∀ (x_1 x_2 : Int) (x_3 : List (List Int)), x_1 = mayD (qimg (List.take x es) ls).length y_1.fst ∧ x_2 = vol ∧ x_3 = wrD (qimg (List.take x es) ls) y_1.fst y.snd → ((-9223372036854775808 : Int) ≤ (↑x : Int) + (1 : Int) ∧ (↑x : Int) + (1 : Int) ≤ (9223372036854775807 : Int)) ∧ ∃ (y : Nat), y ≤ es.length ∧ es.length - y < es.length - x ∧ (↑x : Int) + (1 : Int) = (↑y : Int) ∧ room = room ∧ x_2 = vol ∧ es ≍ es ∧ x_3 ≍ qimg (List.take y es) ls ∧ True) ∧ ((0 : Int) ≤ (↑x : Int) ∧ (↑x : Int) < (↑es.length : Int)) ∧ (((0 : Int) ≤ (↑x : Int) ∧ (↑x : Int) < (↑es.length : Int)) ∧ ((↑x : Int).toNat < es.length ∧ ∀ (y : Int × List Int), es[(↑x : Int).toNat]? = some y → (↑x : Int).toNat < es.length ∧ ∀ (y_1 : Int × List Int), es[(↑x : Int).toNat]? = some y_1 → True ∧ ∀ (x_1 x_2 : Int) (x_3 : List (List Int)), x_1 = mayD (qimg (List.take x es) ls).length y.fst ∧ x_2 = vol ∧ x_3 = wrD (qimg (List.take x es) ls) y.fst y_1.snd → ((-9223372036854775808 : Int) ≤ (↑x : Int) + (1 : Int) ∧ (↑x : Int) + (1 : Int) ≤ (9223372036854775807 : Int)) ∧ ∃ (y : Nat), y ≤ es.length ∧ es.length - y < es.length - x ∧ (↑x : Int) + (1 : Int) = (↑y : Int) ∧ room = room ∧ x_2 = vol ∧ es ≍ es ∧ x_3 ≍ qimg (List.take y es) ls ∧ True) ∧ (↑x : Int).toNat < es.length ∧ ∀ (y : Int × List Int), es[(↑x : Int).toNat]? = some y → (↑x : Int).toNat < es.length ∧ ∀ (y_1 : Int × List Int), es[(↑x : Int).toNat]? = some y_1 → True ∧ ∀ (x_1 x_2 : Int) (x_3 : List (List Int)), x_1 = mayD (qimg (List.take x es) ls).length y_1.fst ∧ x_2 = vol ∧ x_3 = wrD (qimg (List.take x es) ls) y_1.fst y.snd → ((-9223372036854775808 : Int) ≤ (↑x : Int) + (1 : Int) ∧ (↑x : Int) + (1 : Int) ≤ (9223372036854775807 : Int)) ∧ ∃ (y : Nat), y ≤ es.length ∧ es.length - y < es.length - x ∧ (↑x : Int) + (1 : Int) = (↑y : Int) ∧ room = room ∧ x_2 = vol ∧ es ≍ es ∧ x_3 ≍ qimg (List.take y es) ls ∧ True) ∧ (↑x : Int).toNat < es.length ∧ ∀ (y : Int × List Int), es[(↑x : Int).toNat]? = some y → ((0 : Int) ≤ (↑x : Int) ∧ (↑x : Int) < (↑es.length : Int)) ∧ (↑x : Int).toNat < es.length ∧ ∀ (y_1 : Int × List Int), es[(↑x : Int).toNat]? = some y_1 → True ∧ ∀ (x_1 x_2 : Int) (x_3 : List (List Int)), x_1 = mayD (qimg (List.take x es) ls).length y_1.fst ∧ x_2 = vol ∧ x_3 = wrD (qimg (List.take x es) ls) y_1.fst y.snd → ((-9223372036854775808 : Int) ≤ (↑x : Int) + (1 : Int) ∧ (↑x : Int) + (1 : Int) ≤ (9223372036854775807 : Int)) ∧ ∃ (y : Nat), y ≤ es.length ∧ es.length - y < es.length - x ∧ (↑x : Int) + (1 : Int) = (↑y : Int) ∧ room = room ∧ x_2 = vol ∧ es ≍ es ∧ x_3 ≍ qimg (List.take y es) ls ∧ True) ∧ (decide ((↑x : Int) < (↑es.length : Int)) = false → ((0 : Int) ≤ vol ∧ vol ≤ (↑(qimg (List.take x es) ls).length : Int)) ∧ ∀ (x_1 : Int) (x_2 : List (List Int)), x_1 = vol ∧ x_2 = failD vol (qimg (List.take x es) ls) → ∃ (x : Int), ∃ (x_3 : Int), ∃ (x_4 : List (Int × List Int)), ∃ (x_5 : List (List Int)), (room = x ∧ x_1 = x_3 ∧ x_4 = ([] : List (Int × List Int)) ∧ x_2 ≍ x_5 ∧ True) ∧ x = room ∧ x_3 = vol ∧ x_4 = ([] : List (Int × List Int)) ∧ x_5 = failD vol (qimg es ls))) = _) ?_
  have hp : qIn es ls.length ∧ 0 ≤ vol ∧ vol ≤ ls.length := hp
  have hl : es.length ≤ maxLen := hh.2.2.1.1
  unfold maxLen at hl
  refine ⟨⟨0, by omega, rfl, rfl, rfl, HEq.rfl, HEq.rfl, trivial⟩, fun k hk => ⟨fun h1 => ?_, fun h1 => ?_⟩⟩
  · simp only [decide_eq_true_eq] at h1
    have leaf : ∀ (y y' : EN), es[((k : Int)).toNat]? = some y → es[((k : Int)).toNat]? = some y' → ∀ (x1 x2 : Int) (x3 : List LN), (x1 = mayD (qimg (es.take k) ls).length y.1 ∧ x2 = vol ∧ x3 = wrD (qimg (es.take k) ls) y.1 y'.2) →
        ∃ j, j ≤ es.length ∧ es.length - j < es.length - k ∧ (k : Int) + 1 = (j : Int) ∧ room = room ∧ x2 = vol ∧ HEq es es ∧ HEq x3 (qimg (es.take j) ls) ∧ True := by
      intro y y' hy hy' x1 x2 x3 hx
      rw [hy] at hy'
      cases hy'
      rw [Int.toNat_natCast] at hy
      have hy2 := hp.1 y (List.mem_of_getElem? hy)
      refine ⟨k + 1, by omega, by omega, rfl, rfl, hx.2.1, HEq.rfl, heq_of_eq ?_, trivial⟩
      rw [hx.2.2, qimg_take hy, wrD_in (by rw [qimg_len]; exact hy2)]
    (repeat' (first | (intro _) | (apply And.intro <;> intro _) | (apply And.intro)))
    all_goals first | omega | trivial | (rename_i y hy y' hy' x1 x2 x3 hx; exact leaf y y' hy hy' x1 x2 x3 hx) | (rename_i y hy y' hy' x1 x2 x3 hx; exact leaf y' y hy' hy x1 x2 x3 hx)
  · simp only [decide_eq_false_iff_not] at h1
    rw [qimg_all (by omega), qimg_len]
    refine ⟨hp.2, ?_⟩
    rintro (vol : Int) (l1 : List LN) ⟨rfl, rfl⟩
    exact ⟨_, _, _, _, ⟨rfl, rfl, rfl, HEq.rfl, trivial⟩, rfl, rfl, rfl, rfl⟩
def rimg (es : List EN) (ls : List LN) (k : Nat) : List LN := (List.range k).map fun (i : Nat) => qrd es ls (i : Int)
theorem rimg_succ (es : List EN) (ls : List LN) (k : Nat) : rimg es ls (k + 1) = rimg es ls k ++ [qrd es ls (k : Int)] := by simp [rimg, List.range_succ]
theorem rimg_len (es : List EN) (ls : List LN) (k : Nat) : (rimg es ls k).length = k := by simp [rimg]
def rqimage1 : PT where
  ps := [.one (.p 0 0)]
  rg := rqR
  na := 4
  rs := [.one (.s 4)]
  out := rqR ++ [(4, .own 34 shW)]
  nx := 5
  pre := fun (_, _, _, ls, _) => ls.length ≤ 64
  post := fun (room, vol, es, ls, _) (room', vol', es', ls', a, _) => room' = room ∧ vol' = vol ∧ es' = es ∧ ls' = ls ∧ a = rimg es ls ls.length
abbrev lp32 (room vol : Int) (es : List EN) (ls : List LN) : Nat → Option LoopSp := fun _ => some { X := Nat, sl := fun k => [(0, .one (.ptr 0 0)), (3, .one (.sl 4)), (4, .one (vi k))], h := fun k => rqH room vol es ls ++ [(4, .own 34 shW (rimg es ls k))], nx := 5, inv := fun k => k ≤ ls.length, mu := fun k => ls.length - k }
theorem v32 : Valid Try.prog 32 (.full rqimage1.call) := by
  refine valid_P mixed Tbl_ok L6_ok Try.func32 call32 ?_
  intro (room : Int) (vol : Int) (es : List EN) (ls : List LN) hp hr hh
  refine ⟨lp32 room vol es ls, ?_⟩
  refine Eq.mp (by kernel_rfl : ((∃ (x : Nat), x ≤ ls.length ∧ (0 : Int) = (↑x : Int) ∧ room = room ∧ vol = vol ∧ es ≍ es ∧ ls ≍ ls ∧ rimg es ls x = ([] : List (List Int)) ∧ True) ∧ ∀ (x : Nat), x ≤ ls.length → (decide ((↑x : Int) < (↑ls.length : Int)) = true → True ∧ ∀ (x_1 : List Int) (x_2 x_3 x_4 : Int) (x_5 : List (Int × List Int)) (x_6 : List (List Int)), x_1 = qrd es ls (↑x : Int) ∧ x_2 = qre es ls.length (↑x : Int) ∧ x_3 = room ∧ x_4 = vol ∧ x_5 = es ∧ x_6 = ls → ((rimg es ls x).length + (x_1 :: ([] : List (List Int))).length) * (64 : Nat) ≤ (140737488355328 : Nat) ∧ ((-9223372036854775808 : Int) ≤ (↑x : Int) + (1 : Int) ∧ (↑x : Int) + (1 : Int) ≤ (9223372036854775807 : Int)) ∧ ∃ (y : Nat), y ≤ ls.length ∧ ls.length - y < ls.length - x ∧ (↑x : Int) + (1 : Int) = (↑y : Int) ∧ x_3 = room ∧ x_4 = vol ∧ x_5 ≍ es ∧ x_6 ≍ ls ∧ rimg es ls x ++ x_1 :: ([] : List (List Int)) ≍ rimg es ls y ∧ True) ∧ (decide ((↑x : Int) < (↑ls.length : Int)) = false → ∃ (x_1 : Int), ∃ (x_2 : Int), ∃ (x_3 : List (Int × List Int)), ∃ (x_4 : List (List Int)), ∃ (x_5 : List (List Int)), (room = x_1 ∧ vol = x_2 ∧ es ≍ x_3 ∧ ls ≍ x_4 ∧ rimg es ls x ≍ x_5 ∧ True) ∧ x_1 = room ∧ x_2 = vol ∧ x_3 = es ∧ x_4 = ls ∧ x_5 = rimg es ls ls.length)) = _) ?_
  have hp : ls.length ≤ 64 := hp
  refine ⟨⟨0, by omega, rfl, rfl, rfl, HEq.rfl, HEq.rfl, rfl, trivial⟩, fun k hk => ⟨fun h1 => ⟨trivial, ?_⟩, fun h1 => ?_⟩⟩
  · simp only [decide_eq_true_eq] at h1
    rintro _ _ _ _ _ _ ⟨rfl, rfl, h3, h4, h5, h6⟩
    refine ⟨by rw [rimg_len]; simp; omega, by omega, k + 1, by omega, by omega, rfl, h3, h4, heq_of_eq h5, heq_of_eq h6, ?_, trivial⟩
    rw [rimg_succ]
  · simp only [decide_eq_false_iff_not] at h1
    obtain rfl : k = ls.length := by omega
    exact ⟨_, _, _, _, _, ⟨rfl, rfl, HEq.rfl, HEq.rfl, HEq.rfl, trivial⟩, rfl, rfl, rfl, rfl, rfl⟩
end Go.Proofs.Ytgaiedcmohpiaaa.V
