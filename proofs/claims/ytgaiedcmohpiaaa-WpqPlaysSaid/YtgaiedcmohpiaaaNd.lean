import Derived.KernelRfl
import Derived.Test.YtgaiedcmohpiaaaNc
namespace Go.Proofs.Ytgaiedcmohpiaaa.V
open Go.RowKit Go.Proofs.Ytgaiedcmohpiaaa
set_option linter.unusedSimpArgs false
/-- The reference's device: its block 0, its lines 1; its queue: its block 0, its device 1, its entries 2, the lines 3. -/
abbrev rdR : List (Nat × PR) := [(0, .blk [.s 1, I] 67), (1, .own 34 shW)]
abbrev rqR : List (Nat × PR) := [(0, .blk [.p 1 0, I, .s 2] 62), (1, .blk [.s 3, I] 67), (2, .own 88 shE), (3, .own 34 shW)]
abbrev rqN : List (Nat × PR) := [(0, .blk [.p 1 0, I, .s 4] 62), (1, .blk [.s 3, I] 67), (4, .own 88 shE), (3, .own 34 shW)]
abbrev Bo : PC := .d .bool
def has1 : PT where
  ps := [.one (.p 0 0), .one I]
  rg := rdR
  na := 2
  rs := [.one Bo]
  out := rdR
  nx := 2
  pre := fun _ => True
  post := fun (line, vol, ls, _) (e, vol', ls', _) => (e = decide (0 ≤ line ∧ line < ls.length)) ∧ vol' = vol ∧ ls' = ls
theorem v39 : Valid Try.prog 39 (.full has1.call) := by
  refine valid_P mixed Tbl_ok L3_ok Try.func39 call39 ?_
  intro (line : Int) (vol : Int) (ls : List LN) hp hr hh
  refine ⟨noLoop, ?_⟩
  refine Eq.mp (by kernel_rfl : (∃ (x : Bool), ∃ (x_1 : Int), ∃ (x_2 : List (List Int)), ((decide (line ≥ (0 : Int)) && decide (line < (↑ls.length : Int))) = x ∧ vol = x_1 ∧ ls ≍ x_2 ∧ True) ∧ x = decide ((0 : Int) ≤ line ∧ line < (↑ls.length : Int)) ∧ x_1 = vol ∧ x_2 = ls) = _) ?_
  refine ⟨_, _, _, ⟨rfl, rfl, HEq.rfl, trivial⟩, ?_, rfl, rfl⟩
  rw [Bool.eq_iff_iff]
  simp
abbrev L4 : List (Nat × Spec) := (39, .full has1.call) :: L3
theorem L4_all : ∀ p ∈ L4, Valid Try.prog p.1 p.2 := vcons v39 L3_all
theorem L4_ok : ∀ f S, spL L4 f = some S → Valid Try.prog f S := spL_ok L4_all
def rread1 : PT where
  ps := [.one (.p 0 0), .one I]
  rg := rdR
  na := 2
  rs := [.agg [A], .one I]
  out := rdR
  nx := 2
  pre := fun _ => True
  post := fun (line, vol, ls, _) (l, e, vol', ls', _) => e = mayD ls.length line ∧ l = rdD ls line ∧ vol' = vol ∧ ls' = ls
theorem v41 : Valid Try.prog 41 (.full rread1.call) := by
  refine valid_P mixed Tbl_ok L4_ok Try.func41 call41 ?_
  intro (line : Int) (vol : Int) (ls : List LN) hp hr hh
  refine ⟨noLoop, ?_⟩
  refine Eq.mp (by kernel_rfl : (True ∧ ∀ (x : Bool) (x_1 : Int) (x_2 : List (List Int)), x = decide ((0 : Int) ≤ line ∧ line < (↑ls.length : Int)) ∧ x_1 = vol ∧ x_2 = ls → ((!x) = true → ∃ (x : List Int), ∃ (x_3 : Int), ∃ (x_4 : Int), ∃ (x_5 : List (List Int)), (List.replicate (8 : Nat) (0 : Int) = x ∧ (12 : Int) = x_3 ∧ x_1 = x_4 ∧ x_2 ≍ x_5 ∧ True) ∧ x_3 = mayD ls.length line ∧ x = rdD ls line ∧ x_4 = vol ∧ x_5 = ls) ∧ ((!x) = false → ((0 : Int) ≤ line ∧ line < (↑x_2.length : Int)) ∧ line.toNat < x_2.length ∧ ∀ (y : List Int), x_2[line.toNat]? = some y → ∃ (x : List Int), ∃ (x_3 : Int), ∃ (x_4 : Int), ∃ (x_5 : List (List Int)), (y = x ∧ (0 : Int) = x_3 ∧ x_1 = x_4 ∧ x_2 ≍ x_5 ∧ True) ∧ x_3 = mayD ls.length line ∧ x = rdD ls line ∧ x_4 = vol ∧ x_5 = ls)) = _) ?_
  refine ⟨trivial, ?_⟩
  rintro _ (vol : Int) (ls : List LN) ⟨rfl, rfl, rfl⟩
  by_cases h : 0 ≤ line ∧ line < ls.length
  · rw [mayD_in h, rdD_in h]
    refine ⟨fun h2 => ?_, fun _ => ⟨h, by omega, fun y hy => ⟨_, _, _, _, ⟨rfl, rfl, rfl, HEq.rfl, trivial⟩, rfl, (getD_of hy).symm, rfl, rfl⟩⟩⟩
    simp [h] at h2
  · rw [mayD_out h, rdD_out h]
    refine ⟨fun _ => ⟨_, _, _, _, ⟨rfl, rfl, rfl, HEq.rfl, trivial⟩, rfl, rfl, rfl, rfl⟩, fun h2 => ?_⟩
    simp at h2
    exact absurd h2 h
def rwrite1 : PT where
  ps := [.one (.p 0 0), .one I, .agg [A]]
  rg := rdR
  na := 2
  rs := [.one I]
  out := rdR
  nx := 2
  pre := fun _ => True
  post := fun (line, l, vol, ls, _) (e, vol', ls', _) => e = mayD ls.length line ∧ vol' = vol ∧ ls' = wrD ls line l
theorem v28 : Valid Try.prog 28 (.full rwrite1.call) := by
  refine valid_P mixed Tbl_ok L4_ok Try.func28 call28 ?_
  intro (line : Int) (l : LN) (vol : Int) (ls : List LN) hp hr hh
  refine ⟨noLoop, ?_⟩
  refine Eq.mp (by kernel_rfl : (True ∧ ∀ (x : Bool) (x_1 : Int) (x_2 : List (List Int)), x = decide ((0 : Int) ≤ line ∧ line < (↑ls.length : Int)) ∧ x_1 = vol ∧ x_2 = ls → ((!x) = true → ∃ (x : Int), ∃ (x_3 : Int), ∃ (x_4 : List (List Int)), ((12 : Int) = x ∧ x_1 = x_3 ∧ x_2 ≍ x_4 ∧ True) ∧ x = mayD ls.length line ∧ x_3 = vol ∧ x_4 = wrD ls line l) ∧ ((!x) = false → ((0 : Int) ≤ line ∧ line < (↑x_2.length : Int)) ∧ line.toNat < x_2.length ∧ ∀ (z : List Int), x_2[line.toNat]? = some z → ∃ (x : Int), ∃ (x_3 : Int), ∃ (x_4 : List (List Int)), ((0 : Int) = x ∧ x_1 = x_3 ∧ x_2.set line.toNat l ≍ x_4 ∧ True) ∧ x = mayD ls.length line ∧ x_3 = vol ∧ x_4 = wrD ls line l)) = _) ?_
  refine ⟨trivial, ?_⟩
  rintro _ (vol : Int) (ls : List LN) ⟨rfl, rfl, rfl⟩
  by_cases h : 0 ≤ line ∧ line < ls.length
  · rw [mayD_in h, wrD_in h]
    refine ⟨fun h2 => ?_, fun _ => ⟨h, by omega, fun y hy => ⟨_, _, _, ⟨rfl, rfl, HEq.rfl, trivial⟩, rfl, rfl, rfl⟩⟩⟩
    simp [h] at h2
  · rw [mayD_out h, wrD_out h]
    refine ⟨fun _ => ⟨_, _, _, ⟨rfl, rfl, HEq.rfl, trivial⟩, rfl, rfl, rfl⟩, fun h2 => ?_⟩
    simp at h2
    exact absurd h2 h
abbrev rdH (vol : Int) (ls : List LN) : List (Nat × Ck) := [(0, .blk [.sl 1, vi vol] 67), (1, .own 34 shW ls)]
def rfail1 : PT where
  ps := [.one (.p 0 0)]
  rg := rdR
  na := 2
  rs := []
  out := rdR
  nx := 2
  pre := fun (vol, ls, _) => 0 ≤ vol ∧ vol ≤ ls.length
  post := fun (vol, ls, _) (vol', ls', _) => vol' = vol ∧ ls' = failD vol ls
abbrev lp42 (vol : Int) (ls : List LN) : Nat → Option LoopSp := fun _ => some { X := Nat, sl := fun k => [(0, .one (.ptr 0 0)), (2, .one (vi k))], h := fun k => rdH vol (failD k ls), nx := 2, inv := fun k => (k : Int) ≤ vol, mu := fun k => vol.toNat - k }
theorem failD_len {k : Nat} {vol : Int} {ls : List LN} (h : (k : Int) ≤ vol) (h2 : vol ≤ ls.length) : (failD k ls).length = ls.length := by
  simp [failD]; omega
theorem failD_succ {k : Nat} {ls : List LN} (h : k < ls.length) : (failD (k : Int) ls).set ((k : Int)).toNat (List.replicate 8 0) = failD ((k + 1 : Nat) : Int) ls := by
  simp only [failD, Int.toNat_natCast]
  rw [List.set_append_right _ _ (by simp), List.length_replicate, Nat.sub_self, List.drop_eq_getElem_cons h, List.set_cons_zero, show List.replicate (k + 1) Z8 = List.replicate k Z8 ++ [Z8] from List.replicate_succ', List.append_assoc]
  rfl
theorem v42 : Valid Try.prog 42 (.full rfail1.call) := by
  refine valid_P mixed Tbl_ok L4_ok Try.func42 call42 ?_
  intro (vol : Int) (ls : List LN) hp hr hh
  refine ⟨lp42 vol ls, ?_⟩
  refine Eq.mp (by kernel_rfl : ((∃ (x : Nat), (↑x : Int) ≤ vol ∧ (0 : Int) = (↑x : Int) ∧ vol = vol ∧ ls ≍ failD (↑x : Int) ls ∧ True) ∧ ∀ (x : Nat), (↑x : Int) ≤ vol → (decide ((↑x : Int) < vol) = true → ((0 : Int) ≤ (↑x : Int) ∧ (↑x : Int) < (↑(failD (↑x : Int) ls).length : Int)) ∧ (↑x : Int).toNat < (failD (↑x : Int) ls).length ∧ ∀ (z : List Int), (failD (↑x : Int) ls)[(↑x : Int).toNat]? = some z → ((-9223372036854775808 : Int) ≤ (↑x : Int) + (1 : Int) ∧ (↑x : Int) + (1 : Int) ≤ (9223372036854775807 : Int)) ∧ ∃ (y : Nat), (↑y : Int) ≤ vol ∧ vol.toNat - y < vol.toNat - x ∧ (↑x : Int) + (1 : Int) = (↑y : Int) ∧ vol = vol ∧ (failD (↑x : Int) ls).set (↑x : Int).toNat (List.replicate (8 : Nat) (0 : Int)) ≍ failD (↑y : Int) ls ∧ True) ∧ (decide ((↑x : Int) < vol) = false → ∃ (x_1 : Int), ∃ (x_2 : List (List Int)), (vol = x_1 ∧ failD (↑x : Int) ls ≍ x_2 ∧ True) ∧ x_1 = vol ∧ x_2 = failD vol ls)) = _) ?_
  have hp : 0 ≤ vol ∧ vol ≤ ls.length := hp
  have hl : ls.length ≤ maxLen := hh.2.1.1
  unfold maxLen at hl
  refine ⟨⟨0, by omega, rfl, rfl, by simp [failD], trivial⟩, fun k hk => ⟨fun h1 => ?_, fun h1 => ?_⟩⟩
  · simp only [decide_eq_true_eq] at h1
    rw [failD_len hk hp.2]
    refine ⟨by omega, by omega, fun z hz => ⟨by omega, k + 1, by omega, by omega, rfl, rfl, ?_, trivial⟩⟩
    rw [failD_succ (by omega)]
  · simp only [decide_eq_false_iff_not] at h1
    rw [show (k : Int) = vol by omega]
    exact ⟨_, _, ⟨rfl, HEq.rfl, trivial⟩, rfl, rfl⟩
abbrev L5 : List (Nat × Spec) := (41, .full rread1.call) :: (28, .full rwrite1.call) :: (42, .full rfail1.call) :: L4
theorem L5_all : ∀ p ∈ L5, Valid Try.prog p.1 p.2 := vcons v41 (vcons v28 (vcons v42 L4_all))
theorem L5_ok : ∀ f S, spL L5 f = some S → Valid Try.prog f S := spL_ok L5_all
abbrev rqH (room vol : Int) (es : List EN) (ls : List LN) : List (Nat × Ck) := [(0, .blk [.ptr 1 0, vi room, .sl 2] 62), (1, .blk [.sl 3, vi vol] 67), (2, .own 88 shE es), (3, .own 34 shW ls)]
def rpush1 : PT where
  ps := [.one (.p 0 0), .one I, .agg [A]]
  rg := rqR
  na := 4
  rs := [.one I]
  out := rqN
  nx := 5
  pre := fun (_, _, room, _, es, _) => room ≤ 16
  post := fun (line, l, room, vol, es, ls, _) (e, room', vol', es', ls', _) => e = pushC ls.length room es.length line ∧ room' = room ∧ vol' = vol ∧ es' = (if pushC ls.length room es.length line = 0 then es ++ [(line, l)] else es) ∧ ls' = ls
theorem v22 : Valid Try.prog 22 (.full rpush1.call) := by
  refine valid_P mixed Tbl_ok L5_ok Try.func22 call22 ?_
  intro (line : Int) (l : LN) (room : Int) (vol : Int) (es : List EN) (ls : List LN) hp hr hh
  refine ⟨noLoop, ?_⟩
  refine Eq.mp (by kernel_rfl : (True ∧ ∀ (x : Bool) (x_1 : Int) (x_2 : List (List Int)), x = decide ((0 : Int) ≤ line ∧ line < (↑ls.length : Int)) ∧ x_1 = vol ∧ x_2 = ls → ((!x) = true → ∃ (x : Int), ∃ (x_3 : Int), ∃ (x_4 : Int), ∃ (x_5 : List (Int × List Int)), ∃ (x_6 : List (List Int)), ((12 : Int) = x ∧ room = x_3 ∧ x_1 = x_4 ∧ es ≍ x_5 ∧ x_2 ≍ x_6 ∧ True) ∧ x = pushC ls.length room es.length line ∧ x_3 = room ∧ x_4 = vol ∧ (x_5 = if pushC ls.length room es.length line = (0 : Int) then es ++ (line, l) :: ([] : List (Int × List Int)) else es) ∧ x_6 = ls) ∧ ((!x) = false → (decide ((↑es.length : Int) ≥ room) = true → ∃ (x : Int), ∃ (x_3 : Int), ∃ (x_4 : Int), ∃ (x_5 : List (Int × List Int)), ∃ (x_6 : List (List Int)), ((13 : Int) = x ∧ room = x_3 ∧ x_1 = x_4 ∧ es ≍ x_5 ∧ x_2 ≍ x_6 ∧ True) ∧ x = pushC ls.length room es.length line ∧ x_3 = room ∧ x_4 = vol ∧ (x_5 = if pushC ls.length room es.length line = (0 : Int) then es ++ (line, l) :: ([] : List (Int × List Int)) else es) ∧ x_6 = ls) ∧ (decide ((↑es.length : Int) ≥ room) = false → (es.length + ((line, l) :: ([] : List (Int × List Int))).length) * (72 : Nat) ≤ (140737488355328 : Nat) ∧ ∃ (x : Int), ∃ (x_3 : Int), ∃ (x_4 : Int), ∃ (x_5 : List (Int × List Int)), ∃ (x_6 : List (List Int)), ((0 : Int) = x ∧ room = x_3 ∧ x_1 = x_4 ∧ es ++ (line, l) :: ([] : List (Int × List Int)) ≍ x_5 ∧ x_2 ≍ x_6 ∧ True) ∧ x = pushC ls.length room es.length line ∧ x_3 = room ∧ x_4 = vol ∧ (x_5 = if pushC ls.length room es.length line = (0 : Int) then es ++ (line, l) :: ([] : List (Int × List Int)) else es) ∧ x_6 = ls))) = _) ?_
  refine ⟨trivial, ?_⟩
  rintro _ (vol : Int) (ls : List LN) ⟨rfl, rfl, rfl⟩
  have hp : room ≤ 16 := hp
  by_cases h : 0 ≤ line ∧ line < ls.length
  · have hc : pushC ls.length room es.length line = (if (es.length : Int) < room then 0 else 13) := if_pos h
    rw [hc]
    refine ⟨fun h2 => (by simp [h] at h2), fun _ => ⟨fun h1 => ?_, fun h1 => ?_⟩⟩
    · simp only [decide_eq_true_eq] at h1
      rw [if_neg (show ¬ (es.length : Int) < room by omega)]
      exact ⟨_, _, _, _, _, ⟨rfl, rfl, rfl, HEq.rfl, HEq.rfl, trivial⟩, rfl, rfl, rfl, rfl, rfl⟩
    · simp only [decide_eq_false_iff_not] at h1
      rw [if_pos (show (es.length : Int) < room by omega)]
      refine ⟨by simp; omega, _, _, _, _, _, ⟨rfl, rfl, rfl, HEq.rfl, HEq.rfl, trivial⟩, rfl, rfl, rfl, ?_, rfl⟩
      simp
  · have hc : pushC ls.length room es.length line = 12 := if_neg h
    rw [hc]
    refine ⟨fun _ => ⟨_, _, _, _, _, ⟨rfl, rfl, rfl, HEq.rfl, HEq.rfl, trivial⟩, rfl, rfl, rfl, rfl, rfl⟩, fun h2 => ?_⟩
    simp at h2
    exact absurd h2 h
/-- A line's newest words in a queue. -/
def newest (es : List EN) (line : Int) : Option LN := (es.reverse.find? fun x => x.1 == line).map Prod.snd
def qrd (es : List EN) (ls : List LN) (line : Int) : LN := (newest es line).getD (rdD ls line)
def qre (es : List EN) (n : Nat) (line : Int) : Int := match newest es line with | some _ => 0 | none => mayD n line
theorem newest_cons {x : EN} {es : List EN} {line : Int} : newest (x :: es) line = match newest es line with | some l => some l | none => if x.1 == line then some x.2 else none := by
  unfold newest
  rw [List.reverse_cons, List.find?_append]
  cases h : es.reverse.find? (fun x => x.1 == line) with
  | some y => rfl
  | none =>
    by_cases hx : x.1 = line <;> simp [hx]
theorem newest_drop {es : List EN} {j : Nat} {y : EN} {line : Int} (hy : es[j]? = some y) (he : (y.1 == line) = false) : newest (es.drop j) line = newest (es.drop (j + 1)) line := by
  obtain ⟨hj, rfl⟩ := List.getElem?_eq_some_iff.1 hy
  rw [List.drop_eq_getElem_cons hj, newest_cons, he]
  cases newest (es.drop (j + 1)) line <;> rfl
theorem newest_pre {es : List EN} {j : Nat} {line : Int} {l : LN} (h : newest (es.drop j) line = some l) : newest es line = some l := by
  induction j generalizing es with
  | zero => exact h
  | succ j ih =>
    cases es with
    | nil => exact h
    | cons x r => rw [newest_cons, ih (es := r) h]
theorem newest_hit {es : List EN} {j : Nat} {y : EN} {line : Int} (h : newest (es.drop (j + 1)) line = none) (hy : es[j]? = some y) (he : (y.1 == line) = true) : newest es line = some y.2 := by
  refine newest_pre (j := j) ?_
  obtain ⟨hj, rfl⟩ := List.getElem?_eq_some_iff.1 hy
  rw [List.drop_eq_getElem_cons hj, newest_cons, h, he]
  rfl
def rqread1 : PT where
  ps := [.one (.p 0 0), .one I]
  rg := rqR
  na := 4
  rs := [.agg [A], .one I]
  out := rqR
  nx := 4
  pre := fun _ => True
  post := fun (line, room, vol, es, ls, _) (l, e, room', vol', es', ls', _) => l = qrd es ls line ∧ e = qre es ls.length line ∧ room' = room ∧ vol' = vol ∧ es' = es ∧ ls' = ls
abbrev lp24 (line room vol : Int) (es : List EN) (ls : List LN) : Nat → Option LoopSp := fun _ => some { X := Nat, sl := fun k => [(0, .one (.ptr 0 0)), (1, .one (vi line)), (4, .one (.ptr 4 0)), (6, .one (vi ((k : Int) - 1)))], h := fun k => rqH room vol es ls ++ [(4, .blk [.run .u64 8 Z8] 34)], nx := 5, inv := fun k => k ≤ es.length ∧ newest (es.drop k) line = none, mu := fun k => k }
theorem v24 : Valid Try.prog 24 (.full rqread1.call) := by
  refine valid_P mixed Tbl_ok L5_ok Try.func24 call24 ?_
  intro (line : Int) (room : Int) (vol : Int) (es : List EN) (ls : List LN) hp hr hh
  refine ⟨lp24 line room vol es ls, ?_⟩
  refine Eq.mp (by kernel_rfl : (((-9223372036854775808 : Int) ≤ (↑es.length : Int) - (1 : Int) ∧ (↑es.length : Int) - (1 : Int) ≤ (9223372036854775807 : Int)) ∧ (∃ (x : Nat), (x ≤ es.length ∧ newest (List.drop x es) line = (none : Option LN)) ∧ line = line ∧ (↑es.length : Int) - (1 : Int) = (↑x : Int) - (1 : Int) ∧ room = room ∧ vol = vol ∧ es ≍ es ∧ ls ≍ ls ∧ List.replicate (8 : Nat) (0 : Int) = Z8 ∧ True) ∧ ∀ (x : Nat), x ≤ es.length ∧ newest (List.drop x es) line = (none : Option LN) → (decide ((↑x : Int) - (1 : Int) ≥ (0 : Int)) = true → ((0 : Int) ≤ (↑x : Int) - (1 : Int) ∧ (↑x : Int) - (1 : Int) < (↑es.length : Int)) ∧ ((↑x : Int) - (1 : Int)).toNat < es.length ∧ ∀ (y : Int × List Int), es[((↑x : Int) - (1 : Int)).toNat]? = some y → ((y.fst == line) = true → ((0 : Int) ≤ (↑x : Int) - (1 : Int) ∧ (↑x : Int) - (1 : Int) < (↑es.length : Int)) ∧ ((↑x : Int) - (1 : Int)).toNat < es.length ∧ ∀ (y : Int × List Int), es[((↑x : Int) - (1 : Int)).toNat]? = some y → ∃ (x : List Int), ∃ (x_1 : Int), ∃ (x_2 : Int), ∃ (x_3 : Int), ∃ (x_4 : List (Int × List Int)), ∃ (x_5 : List (List Int)), (y.snd = x ∧ (0 : Int) = x_1 ∧ room = x_2 ∧ vol = x_3 ∧ es ≍ x_4 ∧ ls ≍ x_5 ∧ True) ∧ x = qrd es ls line ∧ x_1 = qre es ls.length line ∧ x_2 = room ∧ x_3 = vol ∧ x_4 = es ∧ x_5 = ls) ∧ ((y.fst == line) = false → ((-9223372036854775808 : Int) ≤ (↑x : Int) - (1 : Int) - (1 : Int) ∧ (↑x : Int) - (1 : Int) - (1 : Int) ≤ (9223372036854775807 : Int)) ∧ ∃ (y : Nat), (y ≤ es.length ∧ newest (List.drop y es) line = (none : Option LN)) ∧ y < x ∧ line = line ∧ (↑x : Int) - (1 : Int) - (1 : Int) = (↑y : Int) - (1 : Int) ∧ room = room ∧ vol = vol ∧ es ≍ es ∧ ls ≍ ls ∧ Z8 = Z8 ∧ True)) ∧ (decide ((↑x : Int) - (1 : Int) ≥ (0 : Int)) = false → True ∧ ∀ (x : List Int) (x_1 x_2 : Int) (x_3 : List (List Int)), x_1 = mayD ls.length line ∧ x = rdD ls line ∧ x_2 = vol ∧ x_3 = ls → ∃ (x_4 : List Int), ∃ (x_5 : Int), ∃ (x_6 : Int), ∃ (x_7 : Int), ∃ (x_8 : List (Int × List Int)), ∃ (x_9 : List (List Int)), (x = x_4 ∧ x_1 = x_5 ∧ room = x_6 ∧ x_2 = x_7 ∧ es ≍ x_8 ∧ x_3 ≍ x_9 ∧ True) ∧ x_4 = qrd es ls line ∧ x_5 = qre es ls.length line ∧ x_6 = room ∧ x_7 = vol ∧ x_8 = es ∧ x_9 = ls)) = _) ?_
  have hl : es.length ≤ maxLen := hh.2.2.1.1
  unfold maxLen at hl
  refine ⟨by omega, ⟨es.length, ⟨Nat.le_refl _, by simp [newest]⟩, rfl, rfl, rfl, rfl, HEq.rfl, HEq.rfl, rfl, trivial⟩, fun k hk => ⟨fun h1 => ?_, fun h1 => ?_⟩⟩
  · simp only [decide_eq_true_eq] at h1
    obtain ⟨j, rfl⟩ : ∃ j, k = j + 1 := ⟨k - 1, by omega⟩
    rw [show (((j + 1 : Nat) : Int) - 1) = (j : Int) by omega, Int.toNat_natCast]
    refine ⟨by omega, by omega, fun y hy => ⟨fun he => ⟨by omega, by omega, fun z hz => ?_⟩, fun he => ⟨by omega, j, ⟨by omega, ?_⟩, by omega, rfl, rfl, rfl, rfl, HEq.rfl, HEq.rfl, rfl, trivial⟩⟩⟩
    · rw [hy] at hz
      cases hz
      have hn : newest es line = some y.2 := newest_hit hk.2 hy he
      refine ⟨_, _, _, _, _, _, ⟨rfl, rfl, rfl, rfl, HEq.rfl, HEq.rfl, trivial⟩, ?_, ?_, rfl, rfl, rfl, rfl⟩
      · simp [qrd, hn]
      · simp [qre, hn]
    · rw [newest_drop hy he]
      exact hk.2
  · simp only [decide_eq_false_iff_not] at h1
    obtain rfl : k = 0 := by omega
    have hn : newest es line = none := hk.2
    refine ⟨trivial, ?_⟩
    rintro _ _ (vol : Int) (ls : List LN) ⟨rfl, rfl, rfl, rfl⟩
    refine ⟨_, _, _, _, _, _, ⟨rfl, rfl, rfl, rfl, HEq.rfl, HEq.rfl, trivial⟩, ?_, ?_, rfl, rfl, rfl, rfl⟩
    · simp [qrd, hn]
    · simp [qre, hn]
end Go.Proofs.Ytgaiedcmohpiaaa.V
