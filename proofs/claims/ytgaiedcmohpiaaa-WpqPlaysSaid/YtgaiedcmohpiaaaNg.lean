import Derived.KernelRfl
import Derived.Test.YtgaiedcmohpiaaaNf
import Derived.Test.YtgaiedcmohpiaaaIt
namespace Go.Proofs.Ytgaiedcmohpiaaa.V
open Go.RowKit Go.Proofs.Ytgaiedcmohpiaaa
set_option linter.unusedSimpArgs false
abbrev L9 : List (Nat × Spec) := (40, .full (inl Tbl (spL L8) Try.f40 noLp)) :: (13, .full (callsP [drain1, drain2])) :: L8
theorem L9_all : ∀ p ∈ L9, Valid Try.prog p.1 p.2 := vcons (valid_inl mixed Tbl_ok L8_ok Try.func40 call40 noLp) (vcons v13 L8_all)
theorem L9_ok : ∀ f S, spL L9 f = some S → Valid Try.prog f S := spL_ok L9_all
def itr : Nat → Option Nat := fun g => match Nat.beq g 44 with | true => some 9 | false => none
theorem itr_ok : ∀ g s, itr g = some s → IterOk Try.prog g s := by
  intro g s h
  unfold itr at h
  split at h
  · rename_i e
    cases h
    rw [Nat.eq_of_beq_eq_true e]
    exact it44
  · cases h
def qread1 : PT where
  ps := [.one (.p 0 0), .one I]
  rg := quR
  na := 4
  rs := [.agg [A], .one I]
  out := quR
  nx := 4
  pre := fun _ => True
  post := fun (line, room, vol, es, ls, _) (l, e, room', vol', es', ls', _) => e = qre es ls.length line ∧ l = qrd es ls line ∧ room' = room ∧ vol' = vol ∧ es' = es ∧ ls' = ls
def qread2 : PT where
  ps := [.one .nil, .one I]
  rg := []
  na := 0
  rs := [.agg [A], .one I]
  out := []
  nx := 0
  pre := fun _ => True
  post := fun _ (l, e, _) => e = 1 ∧ l = Z8
theorem v23a : Valid Try.prog 23 (.full qread1.call) := by
  refine valid_PR call23 ?_
  intro (line : Int) (room : Int) (vol : Int) (es : List EN) (ls : List LN) hp hr hh
  refine runR_ok (lp := noLoop) mixed Tbl_ok L9_ok itr_ok Try.func23 ?_
  refine Eq.mp (by kernel_rfl : (∃ (Iv : Nat → Prop), Iv es.length ∧ (∀ (i : Nat) (y : Int × List Int), es[i]? = some y → ((0 : Int) = (0 : Int) ∧ List.replicate (8 : Nat) (0 : Int) = List.replicate (8 : Nat) (0 : Int) ∧ line = line ∧ room = room ∧ vol = vol ∧ ls ≍ ls ∧ True) ∧ ((y.fst == line) = true → Iv (i + (1 : Nat)) → ∃ (x : List Int), ∃ (x_1 : Int), ∃ (x_2 : Int), ∃ (x_3 : Int), ∃ (x_4 : List (Int × List Int)), ∃ (x_5 : List (List Int)), (y.snd = x ∧ (0 : Int) = x_1 ∧ room = x_2 ∧ vol = x_3 ∧ es ≍ x_4 ∧ ls ≍ x_5 ∧ True) ∧ x_1 = qre es ls.length line ∧ x = qrd es ls line ∧ x_2 = room ∧ x_3 = vol ∧ x_4 = es ∧ x_5 = ls) ∧ ((y.fst == line) = false → ((0 : Int) = (0 : Int) ∧ List.replicate (8 : Nat) (0 : Int) = List.replicate (8 : Nat) (0 : Int) ∧ line = line ∧ room = room ∧ vol = vol ∧ ls ≍ ls ∧ True) ∧ (Iv (i + (1 : Nat)) → Iv i))) ∧ (Iv (0 : Nat) → True ∧ ∀ (x : List Int) (x_1 x_2 : Int) (x_3 : List (List Int)), x_1 = mayD ls.length line ∧ x = rdD ls line ∧ x_2 = vol ∧ x_3 = ls → ∃ (x_4 : List Int), ∃ (x_5 : Int), ∃ (x_6 : Int), ∃ (x_7 : Int), ∃ (x_8 : List (Int × List Int)), ∃ (x_9 : List (List Int)), (x = x_4 ∧ x_1 = x_5 ∧ room = x_6 ∧ x_2 = x_7 ∧ es ≍ x_8 ∧ x_3 ≍ x_9 ∧ True) ∧ x_5 = qre es ls.length line ∧ x_4 = qrd es ls line ∧ x_6 = room ∧ x_7 = vol ∧ x_8 = es ∧ x_9 = ls)) = _) ?_
  refine ⟨fun i => newest (es.drop i) line = none, by show newest (es.drop es.length) line = none; rw [List.drop_length]; rfl, fun i y hy => ⟨?_, fun he hI => ?_, fun he => ⟨?_, fun hI => ?_⟩⟩, fun hI => ?_⟩
  · exact ⟨rfl, rfl, rfl, rfl, rfl, HEq.rfl, trivial⟩
  · have hn : newest es line = some y.2 := by
      refine newest_pre (j := i) ?_
      obtain ⟨hj, rfl⟩ := List.getElem?_eq_some_iff.1 hy
      rw [List.drop_eq_getElem_cons hj, newest_cons, hI, he]
      rfl
    exact ⟨_, _, _, _, _, _, ⟨rfl, rfl, rfl, rfl, HEq.rfl, HEq.rfl, trivial⟩, by simp [qre, hn], by simp [qrd, hn], rfl, rfl, rfl, rfl⟩
  · exact ⟨rfl, rfl, rfl, rfl, rfl, HEq.rfl, trivial⟩
  · show newest (es.drop i) line = none
    rw [newest_drop hy he]; exact hI
  · have hn : newest es line = none := hI
    refine ⟨trivial, ?_⟩
    rintro _ _ (vol : Int) (ls : List LN) ⟨rfl, rfl, rfl, rfl⟩
    exact ⟨_, _, _, _, _, _, ⟨rfl, rfl, rfl, rfl, HEq.rfl, HEq.rfl, trivial⟩, by simp [qre, hn], by simp [qrd, hn], rfl, rfl, rfl, rfl⟩
theorem v23b : Valid Try.prog 23 (.full qread2.call) := by
  refine valid_PR call23 ?_
  intro line hp hr hh
  refine runR_ok (lp := noLoop) mixed Tbl_ok L9_ok itr_ok Try.func23 ?_
  refine Eq.mp (by kernel_rfl : (∃ (x : List Int), ∃ (x_1 : Int), (List.replicate (8 : Nat) (0 : Int) = x ∧ (1 : Int) = x_1 ∧ True) ∧ x_1 = (1 : Int) ∧ x = Z8) = _) ?_
  exact ⟨_, _, ⟨rfl, rfl, trivial⟩, rfl, rfl⟩
theorem v23 : Valid Try.prog 23 (.full (callsP [qread1, qread2])) := valid_any call23 fun t ht => by
  rcases List.mem_cons.1 ht with rfl | ht
  · exact v23a
  · rcases List.mem_cons.1 ht with rfl | ht
    · exact v23b
    · cases ht
abbrev L10 : List (Nat × Spec) := (23, .full (callsP [qread1, qread2])) :: L9
theorem L10_all : ∀ p ∈ L10, Valid Try.prog p.1 p.2 := vcons v23 L9_all
theorem L10_ok : ∀ f S, spL L10 f = some S → Valid Try.prog f S := spL_ok L10_all
end Go.Proofs.Ytgaiedcmohpiaaa.V
