import Derived.KernelRfl
import Derived.Test.YtgaiedcmohpiaaaNe
namespace Go.Proofs.Ytgaiedcmohpiaaa.V
open Go.RowKit Go.Proofs.Ytgaiedcmohpiaaa
set_option linter.unusedSimpArgs false
/-- Is it an entry of the line? -/
def isL1 : PT where
  ps := [.agg [.d shE], .one (.p 0 0)]
  rg := [(0, .blk [I] 3)]
  na := 1
  rs := [.one Bo]
  out := [(0, .blk [I] 3)]
  nx := 1
  pre := fun _ => True
  post := fun (x, line, _) (e, line', _) => e = (x.1 == line) ∧ line' = line
theorem v34 : Valid Try.prog 34 (.full isL1.call) := by
  refine valid_P mixed Tbl_ok L6_ok Try.func34 call34 ?_
  intro x line hp hr hh
  refine ⟨noLoop, ?_⟩
  refine Eq.mp (by kernel_rfl : (∃ (x_1 : Bool), ∃ (x_2 : Int), ((x.fst == line) = x_1 ∧ line = x_2 ∧ True) ∧ x_1 = (x.fst == line) ∧ x_2 = line) = _) ?_
  exact ⟨_, _, ⟨rfl, rfl, trivial⟩, rfl, rfl⟩
abbrev L7 : List (Nat × Spec) := (34, .full isL1.call) :: (25, .full rdrain1.call) :: (31, .full rlines1.call) :: (26, .full rqfail1.call) :: (32, .full rqimage1.call) :: L6
theorem L7_all : ∀ p ∈ L7, Valid Try.prog p.1 p.2 := vcons v34 (vcons v25 (vcons v31 (vcons v26 (vcons v32 L6_all))))
theorem L7_ok : ∀ f S, spL L7 f = some S → Valid Try.prog f S := spL_ok L7_all
def idx1 : PT where
  ps := [.one (.s 0), .one (.fn 34 [(1, 0)])]
  rg := [(0, .own 81 shE), (1, .blk [I] 3)]
  na := 2
  rs := [.one I]
  out := [(0, .own 81 shE), (1, .blk [I] 3)]
  nx := 2
  pre := fun _ => True
  post := fun (es, line, _) (e, es', line', _) => e = (if es.findIdx (fun x => x.1 == line) < es.length then ((es.findIdx fun x => x.1 == line : Nat) : Int) else -1) ∧ es' = es ∧ line' = line
abbrev lp33 (es : List EN) (line : Int) : Nat → Option LoopSp := fun _ => some { X := Nat, sl := fun k => [(0, .one (.sl 0)), (1, .one (.fn 34 [(1, 0)])), (7, .one (vi es.length)), (8, .one (vi k))], h := fun _ => [(0, .own 81 shE es), (1, .blk [vi line] 3)], nx := 2, inv := fun k => k ≤ es.length ∧ ∀ (j : Nat) (x : EN), j < k → es[j]? = some x → (x.1 == line) = false, mu := fun k => es.length - k }
theorem v33 : Valid Try.prog 33 (.full idx1.call) := by
  refine valid_P mixed Tbl_ok L7_ok Try.func33 call33 ?_
  intro (es : List EN) (line : Int) hp hr hh
  refine ⟨lp33 es line, ?_⟩
  refine Eq.mp (by kernel_rfl : ((∃ (x : Nat), (x ≤ es.length ∧ ∀ (j : Nat) (x_1 : EN), j < x → es[j]? = some x_1 → (x_1.fst == line) = false) ∧ (↑es.length : Int) = (↑es.length : Int) ∧ (0 : Int) = (↑x : Int) ∧ es ≍ es ∧ line = line ∧ True) ∧ ∀ (x : Nat), (x ≤ es.length ∧ ∀ (j : Nat) (x_1 : EN), j < x → es[j]? = some x_1 → (x_1.fst == line) = false) → (decide ((↑x : Int) < (↑es.length : Int)) = true → ((0 : Int) ≤ (↑x : Int) ∧ (↑x : Int) < (↑es.length : Int)) ∧ (↑x : Int).toNat < es.length ∧ ∀ (y : Int × List Int), es[(↑x : Int).toNat]? = some y → True ∧ ∀ (x_1 : Bool) (x_2 : Int), x_1 = (y.fst == line) ∧ x_2 = line → (x_1 = true → ∃ (x_3 : Int), ∃ (x_4 : List (Int × List Int)), ∃ (x_5 : Int), ((↑x : Int) = x_3 ∧ es ≍ x_4 ∧ x_2 = x_5 ∧ True) ∧ (x_3 = if List.findIdx (fun (x : Int × List Int) => x.fst == line) es < es.length then (↑(List.findIdx (fun (x : Int × List Int) => x.fst == line) es) : Int) else (-1 : Int)) ∧ x_4 = es ∧ x_5 = line) ∧ (x_1 = false → ((-9223372036854775808 : Int) ≤ (↑x : Int) + (1 : Int) ∧ (↑x : Int) + (1 : Int) ≤ (9223372036854775807 : Int)) ∧ ∃ (y : Nat), (y ≤ es.length ∧ ∀ (j : Nat) (x : EN), j < y → es[j]? = some x → (x.fst == line) = false) ∧ es.length - y < es.length - x ∧ (↑es.length : Int) = (↑es.length : Int) ∧ (↑x : Int) + (1 : Int) = (↑y : Int) ∧ es ≍ es ∧ x_2 = line ∧ True)) ∧ (decide ((↑x : Int) < (↑es.length : Int)) = false → ∃ (x : Int), ∃ (x_1 : List (Int × List Int)), ∃ (x_2 : Int), ((-1 : Int) = x ∧ es ≍ x_1 ∧ line = x_2 ∧ True) ∧ (x = if List.findIdx (fun (x : Int × List Int) => x.fst == line) es < es.length then (↑(List.findIdx (fun (x : Int × List Int) => x.fst == line) es) : Int) else (-1 : Int)) ∧ x_1 = es ∧ x_2 = line)) = _) ?_
  have hl : es.length ≤ maxLen := hh.1.1
  unfold maxLen at hl
  refine ⟨⟨0, ⟨by omega, fun j x hj => by omega⟩, rfl, rfl, HEq.rfl, rfl, trivial⟩, fun k hk => ⟨fun h1 => ?_, fun h1 => ?_⟩⟩
  · simp only [decide_eq_true_eq] at h1
    refine ⟨by omega, by omega, fun y hy => ⟨trivial, ?_⟩⟩
    rw [Int.toNat_natCast] at hy
    rintro _ _ ⟨rfl, h2⟩
    refine ⟨fun he => ?_, fun he => ⟨by omega, k + 1, ⟨by omega, fun j x hj hx => ?_⟩, by omega, rfl, rfl, HEq.rfl, h2, trivial⟩⟩
    · obtain ⟨f1, f2⟩ := fnd_some hk.2 hy he
      rw [f2, if_pos (by omega)]
      exact ⟨_, _, _, ⟨rfl, HEq.rfl, rfl, trivial⟩, rfl, rfl, h2⟩
    · by_cases hjk : j = k
      · subst hjk; rw [hy] at hx; cases hx; exact he
      · exact hk.2 j x (by omega) hx
  · simp only [decide_eq_false_iff_not] at h1
    obtain ⟨f1, f2⟩ := fnd_none (es := es) (line := line) fun j x hx => hk.2 j x (by have := (List.getElem?_eq_some_iff.1 hx).1; omega) hx
    rw [f2, if_neg (by omega)]
    exact ⟨_, _, _, ⟨rfl, HEq.rfl, rfl, trivial⟩, rfl, rfl, rfl⟩
abbrev L8 : List (Nat × Spec) := (33, .full idx1.call) :: L7
theorem L8_all : ∀ p ∈ L8, Valid Try.prog p.1 p.2 := vcons v33 L7_all
theorem L8_ok : ∀ f S, spL L8 f = some S → Valid Try.prog f S := spL_ok L8_all
def drain1 : PT where
  ps := [.one (.p 0 0), .one I]
  rg := quR
  na := 4
  rs := [.one I]
  out := quN
  nx := 5
  pre := fun (_, _, _, es, _, _) => es.length ≤ 16
  post := fun (line, room, vol, es, ls, _) (e, room', vol', es', ls', _) => e = drA es line ∧ room' = room ∧ vol' = vol ∧ es' = drE es line ∧ ls' = drL es ls line
def drain2 : PT where
  ps := [.one .nil, .one I]
  rg := []
  na := 0
  rs := [.one I]
  out := []
  nx := 0
  pre := fun _ => True
  post := fun _ (e, _) => e = 1
theorem v13 : Valid Try.prog 13 (.full (callsP [drain1, drain2])) := by
  refine valid_Ps mixed Tbl_ok L8_ok Try.func13 call13 ⟨?a, ?b, trivial⟩
  case a =>
    intro (line : Int) (room : Int) (vol : Int) (es : List EN) (ls : List LN) hp hr hh
    refine ⟨noLoop, ?_⟩
    refine Eq.mp (by kernel_rfl : (True ∧ ∀ (x : Int) (x_1 : List (Int × List Int)) (x_2 : Int), (x = if List.findIdx (fun (x : Int × List Int) => x.fst == line) es < es.length then (↑(List.findIdx (fun (x : Int × List Int) => x.fst == line) es) : Int) else (-1 : Int)) ∧ x_1 = es ∧ x_2 = line → (decide (x < (0 : Int)) = true → ∃ (x : Int), ∃ (x_3 : Int), ∃ (x_4 : Int), ∃ (x_5 : List (Int × List Int)), ∃ (x_6 : List (List Int)), ((14 : Int) = x ∧ room = x_3 ∧ vol = x_4 ∧ x_1 ≍ x_5 ∧ ls ≍ x_6 ∧ True) ∧ x = drA es line ∧ x_3 = room ∧ x_4 = vol ∧ x_5 = drE es line ∧ x_6 = drL es ls line) ∧ (decide (x < (0 : Int)) = false → ((0 : Int) ≤ x ∧ x < (↑x_1.length : Int)) ∧ x.toNat < x_1.length ∧ ∀ (y : Int × List Int), x_1[x.toNat]? = some y → True ∧ ∀ (x_3 x_4 : Int) (x_5 : List (List Int)), x_3 = mayD ls.length x_2 ∧ x_4 = vol ∧ x_5 = wrD ls x_2 y.snd → ((0 : Int) ≤ x ∧ x ≤ (↑x_1.length : Int)) ∧ ((-9223372036854775808 : Int) ≤ x + (1 : Int) ∧ x + (1 : Int) ≤ (9223372036854775807 : Int)) ∧ ((0 : Int) ≤ x + (1 : Int) ∧ x + (1 : Int) ≤ (↑x_1.length : Int)) ∧ (x + (1 : Int)).toNat + (x_1.length - (x + (1 : Int)).toNat) ≤ x_1.length ∧ x.toNat + (x_1.length - x.toNat) ≤ x_1.length ∧ ((-9223372036854775808 : Int) ≤ x + (↑(min (List.take (x_1.length - (x + (1 : Int)).toNat) (List.drop (x + (1 : Int)).toNat x_1)).length (x_1.length - x.toNat)) : Int) ∧ x + (↑(min (List.take (x_1.length - (x + (1 : Int)).toNat) (List.drop (x + (1 : Int)).toNat x_1)).length (x_1.length - x.toNat)) : Int) ≤ (9223372036854775807 : Int)) ∧ ((0 : Int) ≤ x + (↑(min (List.take (x_1.length - (x + (1 : Int)).toNat) (List.drop (x + (1 : Int)).toNat x_1)).length (x_1.length - x.toNat)) : Int) ∧ x + (↑(min (List.take (x_1.length - (x + (1 : Int)).toNat) (List.drop (x + (1 : Int)).toNat x_1)).length (x_1.length - x.toNat)) : Int) ≤ (↑(List.take x.toNat x_1 ++ List.take (min (List.take (x_1.length - (x + (1 : Int)).toNat) (List.drop (x + (1 : Int)).toNat x_1)).length (x_1.length - x.toNat)) (List.take (x_1.length - (x + (1 : Int)).toNat) (List.drop (x + (1 : Int)).toNat x_1)) ++ List.drop (x.toNat + min (List.take (x_1.length - (x + (1 : Int)).toNat) (List.drop (x + (1 : Int)).toNat x_1)).length (x_1.length - x.toNat)) x_1).length : Int)) ∧ (x + (↑(min (List.take (x_1.length - (x + (1 : Int)).toNat) (List.drop (x + (1 : Int)).toNat x_1)).length (x_1.length - x.toNat)) : Int)).toNat + ((List.take x.toNat x_1 ++ List.take (min (List.take (x_1.length - (x + (1 : Int)).toNat) (List.drop (x + (1 : Int)).toNat x_1)).length (x_1.length - x.toNat)) (List.take (x_1.length - (x + (1 : Int)).toNat) (List.drop (x + (1 : Int)).toNat x_1)) ++ List.drop (x.toNat + min (List.take (x_1.length - (x + (1 : Int)).toNat) (List.drop (x + (1 : Int)).toNat x_1)).length (x_1.length - x.toNat)) x_1).length - (x + (↑(min (List.take (x_1.length - (x + (1 : Int)).toNat) (List.drop (x + (1 : Int)).toNat x_1)).length (x_1.length - x.toNat)) : Int)).toNat) ≤ (List.take x.toNat x_1 ++ List.take (min (List.take (x_1.length - (x + (1 : Int)).toNat) (List.drop (x + (1 : Int)).toNat x_1)).length (x_1.length - x.toNat)) (List.take (x_1.length - (x + (1 : Int)).toNat) (List.drop (x + (1 : Int)).toNat x_1)) ++ List.drop (x.toNat + min (List.take (x_1.length - (x + (1 : Int)).toNat) (List.drop (x + (1 : Int)).toNat x_1)).length (x_1.length - x.toNat)) x_1).length ∧ ((-9223372036854775808 : Int) ≤ x + (↑(min (List.take (x_1.length - (x + (1 : Int)).toNat) (List.drop (x + (1 : Int)).toNat x_1)).length (x_1.length - x.toNat)) : Int) ∧ x + (↑(min (List.take (x_1.length - (x + (1 : Int)).toNat) (List.drop (x + (1 : Int)).toNat x_1)).length (x_1.length - x.toNat)) : Int) ≤ (9223372036854775807 : Int)) ∧ ((0 : Int) ≤ x + (↑(min (List.take (x_1.length - (x + (1 : Int)).toNat) (List.drop (x + (1 : Int)).toNat x_1)).length (x_1.length - x.toNat)) : Int) ∧ x + (↑(min (List.take (x_1.length - (x + (1 : Int)).toNat) (List.drop (x + (1 : Int)).toNat x_1)).length (x_1.length - x.toNat)) : Int) ≤ (↑(List.take (x + (↑(min (List.take (x_1.length - (x + (1 : Int)).toNat) (List.drop (x + (1 : Int)).toNat x_1)).length (x_1.length - x.toNat)) : Int)).toNat (List.take x.toNat x_1 ++ List.take (min (List.take (x_1.length - (x + (1 : Int)).toNat) (List.drop (x + (1 : Int)).toNat x_1)).length (x_1.length - x.toNat)) (List.take (x_1.length - (x + (1 : Int)).toNat) (List.drop (x + (1 : Int)).toNat x_1)) ++ List.drop (x.toNat + min (List.take (x_1.length - (x + (1 : Int)).toNat) (List.drop (x + (1 : Int)).toNat x_1)).length (x_1.length - x.toNat)) x_1) ++ List.replicate ((List.take x.toNat x_1 ++ List.take (min (List.take (x_1.length - (x + (1 : Int)).toNat) (List.drop (x + (1 : Int)).toNat x_1)).length (x_1.length - x.toNat)) (List.take (x_1.length - (x + (1 : Int)).toNat) (List.drop (x + (1 : Int)).toNat x_1)) ++ List.drop (x.toNat + min (List.take (x_1.length - (x + (1 : Int)).toNat) (List.drop (x + (1 : Int)).toNat x_1)).length (x_1.length - x.toNat)) x_1).length - (x + (↑(min (List.take (x_1.length - (x + (1 : Int)).toNat) (List.drop (x + (1 : Int)).toNat x_1)).length (x_1.length - x.toNat)) : Int)).toNat) ((0 : Int), List.replicate (8 : Nat) (0 : Int)) ++ List.drop ((x + (↑(min (List.take (x_1.length - (x + (1 : Int)).toNat) (List.drop (x + (1 : Int)).toNat x_1)).length (x_1.length - x.toNat)) : Int)).toNat + ((List.take x.toNat x_1 ++ List.take (min (List.take (x_1.length - (x + (1 : Int)).toNat) (List.drop (x + (1 : Int)).toNat x_1)).length (x_1.length - x.toNat)) (List.take (x_1.length - (x + (1 : Int)).toNat) (List.drop (x + (1 : Int)).toNat x_1)) ++ List.drop (x.toNat + min (List.take (x_1.length - (x + (1 : Int)).toNat) (List.drop (x + (1 : Int)).toNat x_1)).length (x_1.length - x.toNat)) x_1).length - (x + (↑(min (List.take (x_1.length - (x + (1 : Int)).toNat) (List.drop (x + (1 : Int)).toNat x_1)).length (x_1.length - x.toNat)) : Int)).toNat)) (List.take x.toNat x_1 ++ List.take (min (List.take (x_1.length - (x + (1 : Int)).toNat) (List.drop (x + (1 : Int)).toNat x_1)).length (x_1.length - x.toNat)) (List.take (x_1.length - (x + (1 : Int)).toNat) (List.drop (x + (1 : Int)).toNat x_1)) ++ List.drop (x.toNat + min (List.take (x_1.length - (x + (1 : Int)).toNat) (List.drop (x + (1 : Int)).toNat x_1)).length (x_1.length - x.toNat)) x_1)).length : Int)) ∧ (0 : Nat) + (x + (↑(min (List.take (x_1.length - (x + (1 : Int)).toNat) (List.drop (x + (1 : Int)).toNat x_1)).length (x_1.length - x.toNat)) : Int)).toNat ≤ (List.take (x + (↑(min (List.take (x_1.length - (x + (1 : Int)).toNat) (List.drop (x + (1 : Int)).toNat x_1)).length (x_1.length - x.toNat)) : Int)).toNat (List.take x.toNat x_1 ++ List.take (min (List.take (x_1.length - (x + (1 : Int)).toNat) (List.drop (x + (1 : Int)).toNat x_1)).length (x_1.length - x.toNat)) (List.take (x_1.length - (x + (1 : Int)).toNat) (List.drop (x + (1 : Int)).toNat x_1)) ++ List.drop (x.toNat + min (List.take (x_1.length - (x + (1 : Int)).toNat) (List.drop (x + (1 : Int)).toNat x_1)).length (x_1.length - x.toNat)) x_1) ++ List.replicate ((List.take x.toNat x_1 ++ List.take (min (List.take (x_1.length - (x + (1 : Int)).toNat) (List.drop (x + (1 : Int)).toNat x_1)).length (x_1.length - x.toNat)) (List.take (x_1.length - (x + (1 : Int)).toNat) (List.drop (x + (1 : Int)).toNat x_1)) ++ List.drop (x.toNat + min (List.take (x_1.length - (x + (1 : Int)).toNat) (List.drop (x + (1 : Int)).toNat x_1)).length (x_1.length - x.toNat)) x_1).length - (x + (↑(min (List.take (x_1.length - (x + (1 : Int)).toNat) (List.drop (x + (1 : Int)).toNat x_1)).length (x_1.length - x.toNat)) : Int)).toNat) ((0 : Int), List.replicate (8 : Nat) (0 : Int)) ++ List.drop ((x + (↑(min (List.take (x_1.length - (x + (1 : Int)).toNat) (List.drop (x + (1 : Int)).toNat x_1)).length (x_1.length - x.toNat)) : Int)).toNat + ((List.take x.toNat x_1 ++ List.take (min (List.take (x_1.length - (x + (1 : Int)).toNat) (List.drop (x + (1 : Int)).toNat x_1)).length (x_1.length - x.toNat)) (List.take (x_1.length - (x + (1 : Int)).toNat) (List.drop (x + (1 : Int)).toNat x_1)) ++ List.drop (x.toNat + min (List.take (x_1.length - (x + (1 : Int)).toNat) (List.drop (x + (1 : Int)).toNat x_1)).length (x_1.length - x.toNat)) x_1).length - (x + (↑(min (List.take (x_1.length - (x + (1 : Int)).toNat) (List.drop (x + (1 : Int)).toNat x_1)).length (x_1.length - x.toNat)) : Int)).toNat)) (List.take x.toNat x_1 ++ List.take (min (List.take (x_1.length - (x + (1 : Int)).toNat) (List.drop (x + (1 : Int)).toNat x_1)).length (x_1.length - x.toNat)) (List.take (x_1.length - (x + (1 : Int)).toNat) (List.drop (x + (1 : Int)).toNat x_1)) ++ List.drop (x.toNat + min (List.take (x_1.length - (x + (1 : Int)).toNat) (List.drop (x + (1 : Int)).toNat x_1)).length (x_1.length - x.toNat)) x_1)).length ∧ ∃ (x_6 : Int), ∃ (x_7 : Int), ∃ (x_8 : Int), ∃ (x_9 : List (Int × List Int)), ∃ (x_10 : List (List Int)), ((0 : Int) = x_6 ∧ room = x_7 ∧ x_4 = x_8 ∧ List.take (x + (↑(min (List.take (x_1.length - (x + (1 : Int)).toNat) (List.drop (x + (1 : Int)).toNat x_1)).length (x_1.length - x.toNat)) : Int)).toNat (List.drop (0 : Nat) (List.take (x + (↑(min (List.take (x_1.length - (x + (1 : Int)).toNat) (List.drop (x + (1 : Int)).toNat x_1)).length (x_1.length - x.toNat)) : Int)).toNat (List.take x.toNat x_1 ++ List.take (min (List.take (x_1.length - (x + (1 : Int)).toNat) (List.drop (x + (1 : Int)).toNat x_1)).length (x_1.length - x.toNat)) (List.take (x_1.length - (x + (1 : Int)).toNat) (List.drop (x + (1 : Int)).toNat x_1)) ++ List.drop (x.toNat + min (List.take (x_1.length - (x + (1 : Int)).toNat) (List.drop (x + (1 : Int)).toNat x_1)).length (x_1.length - x.toNat)) x_1) ++ List.replicate ((List.take x.toNat x_1 ++ List.take (min (List.take (x_1.length - (x + (1 : Int)).toNat) (List.drop (x + (1 : Int)).toNat x_1)).length (x_1.length - x.toNat)) (List.take (x_1.length - (x + (1 : Int)).toNat) (List.drop (x + (1 : Int)).toNat x_1)) ++ List.drop (x.toNat + min (List.take (x_1.length - (x + (1 : Int)).toNat) (List.drop (x + (1 : Int)).toNat x_1)).length (x_1.length - x.toNat)) x_1).length - (x + (↑(min (List.take (x_1.length - (x + (1 : Int)).toNat) (List.drop (x + (1 : Int)).toNat x_1)).length (x_1.length - x.toNat)) : Int)).toNat) ((0 : Int), List.replicate (8 : Nat) (0 : Int)) ++ List.drop ((x + (↑(min (List.take (x_1.length - (x + (1 : Int)).toNat) (List.drop (x + (1 : Int)).toNat x_1)).length (x_1.length - x.toNat)) : Int)).toNat + ((List.take x.toNat x_1 ++ List.take (min (List.take (x_1.length - (x + (1 : Int)).toNat) (List.drop (x + (1 : Int)).toNat x_1)).length (x_1.length - x.toNat)) (List.take (x_1.length - (x + (1 : Int)).toNat) (List.drop (x + (1 : Int)).toNat x_1)) ++ List.drop (x.toNat + min (List.take (x_1.length - (x + (1 : Int)).toNat) (List.drop (x + (1 : Int)).toNat x_1)).length (x_1.length - x.toNat)) x_1).length - (x + (↑(min (List.take (x_1.length - (x + (1 : Int)).toNat) (List.drop (x + (1 : Int)).toNat x_1)).length (x_1.length - x.toNat)) : Int)).toNat)) (List.take x.toNat x_1 ++ List.take (min (List.take (x_1.length - (x + (1 : Int)).toNat) (List.drop (x + (1 : Int)).toNat x_1)).length (x_1.length - x.toNat)) (List.take (x_1.length - (x + (1 : Int)).toNat) (List.drop (x + (1 : Int)).toNat x_1)) ++ List.drop (x.toNat + min (List.take (x_1.length - (x + (1 : Int)).toNat) (List.drop (x + (1 : Int)).toNat x_1)).length (x_1.length - x.toNat)) x_1))) ≍ x_9 ∧ x_5 ≍ x_10 ∧ True) ∧ x_6 = drA es line ∧ x_7 = room ∧ x_8 = vol ∧ x_9 = drE es line ∧ x_10 = drL es ls line)) = _) ?_
    have hp : es.length ≤ 16 := hp
    refine ⟨trivial, ?_⟩
    rintro _ (es : List EN) (line : Int) ⟨rfl, rfl, rfl⟩
    by_cases hk : es.findIdx (fun x => x.1 == line) < es.length
    · rw [if_pos hk]
      obtain ⟨k, hkk⟩ : ∃ k, es.findIdx (fun x => x.1 == line) = k := ⟨_, rfl⟩
      rw [hkk] at hk ⊢
      refine ⟨fun h => by (simp at h; omega), fun _ => ⟨by omega, by omega, fun y hy => ⟨trivial, ?_⟩⟩⟩
      rw [Int.toNat_natCast] at hy
      rintro _ (vol : Int) (l1 : List LN) ⟨rfl, rfl, rfl⟩
      rw [show ((k : Int) + 1).toNat = k + 1 by omega, Int.toNat_natCast]
      have e1 : (List.take (es.length - (k + 1)) (List.drop (k + 1) es)).length = es.length - (k + 1) := by simp
      rw [e1, show min (es.length - (k + 1)) (es.length - k) = es.length - (k + 1) by omega]
      rw [show ((k : Int) + ((es.length - (k + 1) : Nat) : Int)).toNat = es.length - 1 by omega, show k + (es.length - (k + 1)) = es.length - 1 by omega]
      have e2 : List.take (es.length - (k + 1)) (List.drop (k + 1) es) = List.drop (k + 1) es := List.take_of_length_le (by simp)
      rw [e2, e2]
      obtain ⟨L, hL⟩ : ∃ L, List.take k es ++ List.drop (k + 1) es = L := ⟨_, rfl⟩
      have lL : L.length = es.length - 1 := by rw [← hL]; simp <;> omega
      have lA : (L ++ List.drop (es.length - 1) es).length = es.length := by simp [lL] <;> omega
      have tA : List.take (es.length - 1) (L ++ List.drop (es.length - 1) es) = L := by rw [List.take_append_of_le_length (by omega), List.take_of_length_le (by omega)]
      rw [hL, lA, tA, show es.length - 1 + (es.length - (es.length - 1)) = es.length by omega]
      have f1 : es.find? (fun x => x.1 == line) = some y := by
        refine (fnd_some (k := k) (fun j x hj hx => ?_) hy ?_).1
        · obtain ⟨hl, rfl⟩ := List.getElem?_eq_some_iff.1 hx
          have := List.not_of_lt_findIdx (p := fun x : EN => x.1 == line) (xs := es) (i := j) (by omega)
          simpa using this
        · obtain ⟨hl, rfl⟩ := List.getElem?_eq_some_iff.1 hy
          subst hkk
          exact List.findIdx_getElem (w := hl)
      refine ⟨by omega, by omega, by omega, by omega, by omega, by omega, by omega, by omega, by omega, ⟨by omega, by simp [lL]; omega⟩, by simp [lL], _, _, _, _, _, ⟨rfl, rfl, rfl, HEq.rfl, HEq.rfl, trivial⟩, ?_, rfl, rfl, ?_, ?_⟩
      · simp [drA, f1]
      · rw [drE, hkk, List.eraseIdx_eq_take_drop_succ, hL]
        simp [lL]
      · simp [drL, f1]
    · rw [if_neg hk]
      have f1 : es.find? (fun x => x.1 == line) = none := by
        refine (fnd_none fun j x hx => ?_).1
        obtain ⟨hl, rfl⟩ := List.getElem?_eq_some_iff.1 hx
        have := List.not_of_lt_findIdx (p := fun x : EN => x.1 == line) (xs := es) (i := j) (by omega)
        simpa using this
      refine ⟨fun _ => ⟨_, _, _, _, _, ⟨rfl, rfl, rfl, HEq.rfl, HEq.rfl, trivial⟩, ?_, rfl, rfl, ?_, ?_⟩, fun h => by (simp at h)⟩
      · simp [drA, f1]
      · rw [drE, List.eraseIdx_of_length_le (by omega)]
      · simp [drL, f1]
  case b =>
    intro line hp hr hh
    refine ⟨noLoop, ?_⟩
    refine Eq.mp (by kernel_rfl : (∃ (x : Int), ((1 : Int) = x ∧ True) ∧ x = (1 : Int)) = _) ?_
    exact ⟨_, ⟨rfl, trivial⟩, rfl⟩
end Go.Proofs.Ytgaiedcmohpiaaa.V
