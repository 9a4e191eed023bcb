import Derived.KernelRfl
import Derived.Test.YtgaiedcmohpiaaaNa
namespace Go.Proofs.Ytgaiedcmohpiaaa.V
open Go.RowKit Go.Proofs.Ytgaiedcmohpiaaa
set_option linter.unusedSimpArgs false
abbrev shE : Sh := .pair (.int .i64) shW
abbrev EN := Int × LN
/-- A queue: its block 0, its device 1, its entries 2, the device's lines 3. -/
abbrev quR : List (Nat × PR) := [(0, .blk [.p 1 0, I, .s 2] 79), (1, .blk [.s 3, I, .nm .i64, .nm .i64] 76), (2, .own 81 shE), (3, .own 34 shW)]
abbrev L3 : List (Nat × Spec) := (19, .full (callsP [image1, image2])) :: (8, .full (inl Tbl (spL L2) Try.f8 noLp)) :: L2
theorem L3_all : ∀ p ∈ L3, Valid Try.prog p.1 p.2 := vcons v19 (vcons v8 L2_all)
theorem L3_ok : ∀ f S, spL L3 f = some S → Valid Try.prog f S := spL_ok L3_all
/-- The same, the entries in a region of their own. -/
abbrev quN : List (Nat × PR) := [(0, .blk [.p 1 0, I, .s 4] 79), (1, .blk [.s 3, I, .nm .i64, .nm .i64] 76), (4, .own 81 shE), (3, .own 34 shW)]
/-- What Push answers. -/
def pushC (n : Nat) (room : Int) (k : Nat) (line : Int) : Int := if 0 ≤ line ∧ line < n then (if (k : Int) < room then 0 else 13) else 12
theorem copy_new {α : Type} (es : List α) (z : α) : List.take 0 (List.replicate ((es.length : Int) + 1).toNat z) ++ List.take (min es.length (List.replicate ((es.length : Int) + 1).toNat z).length) es ++ List.drop (0 + min es.length (List.replicate ((es.length : Int) + 1).toNat z).length) (List.replicate ((es.length : Int) + 1).toNat z) = es ++ [z] := by
  rw [show ((es.length : Int) + 1).toNat = es.length + 1 by omega, List.length_replicate, Nat.min_eq_left (Nat.le_succ _)]
  simp
def push1 : PT where
  ps := [.one (.p 0 0), .one I, .agg [A]]
  rg := quR
  na := 4
  rs := [.one I]
  out := quN
  nx := 5
  pre := fun (_, _, room, _, es, _) => room ≤ 16
  post := fun (line, l, room, vol, es, ls, _) (e, room', vol', es', ls', _) => e = pushC ls.length room es.length line ∧ room' = room ∧ vol' = vol ∧ es' = (if pushC ls.length room es.length line = 0 then es ++ [(line, l)] else es) ∧ ls' = ls
def push2 : PT where
  ps := [.one .nil, .one I, .agg [A]]
  rg := []
  na := 0
  rs := [.one I]
  out := []
  nx := 0
  pre := fun _ => True
  post := fun _ (e, _) => e = 1
theorem v11 : Valid Try.prog 11 (.full (callsP [push1, push2])) := by
  refine valid_Ps mixed Tbl_ok L3_ok Try.func11 call11 ⟨?a, ?b, trivial⟩
  case a =>
    intro (line : Int) (l : LN) (room : Int) (vol : Int) (es : List EN) (ls : List LN) hp hr hh
    refine ⟨noLoop, ?_⟩
    refine Eq.mp (by kernel_rfl : (True ∧ ∀ (x : List Int) (x_1 x_2 : Int) (x_3 : List (List Int)), x_1 = mayD ls.length line ∧ x = rdD ls line ∧ x_2 = vol ∧ x_3 = ls → ((x_1 != (0 : Int)) = true → ∃ (x : Int), ∃ (x_4 : Int), ∃ (x_5 : Int), ∃ (x_6 : List (Int × List Int)), ∃ (x_7 : List (List Int)), (x_1 = x ∧ room = x_4 ∧ x_2 = x_5 ∧ es ≍ x_6 ∧ x_3 ≍ x_7 ∧ True) ∧ x = pushC ls.length room es.length line ∧ x_4 = room ∧ x_5 = vol ∧ (x_6 = if pushC ls.length room es.length line = (0 : Int) then es ++ (line, l) :: ([] : List (Int × List Int)) else es) ∧ x_7 = ls) ∧ ((x_1 != (0 : Int)) = false → (decide ((↑es.length : Int) ≥ room) = true → ∃ (x : Int), ∃ (x_4 : Int), ∃ (x_5 : Int), ∃ (x_6 : List (Int × List Int)), ∃ (x_7 : List (List Int)), ((13 : Int) = x ∧ room = x_4 ∧ x_2 = x_5 ∧ es ≍ x_6 ∧ x_3 ≍ x_7 ∧ True) ∧ x = pushC ls.length room es.length line ∧ x_4 = room ∧ x_5 = vol ∧ (x_6 = if pushC ls.length room es.length line = (0 : Int) then es ++ (line, l) :: ([] : List (Int × List Int)) else es) ∧ x_7 = ls) ∧ (decide ((↑es.length : Int) ≥ room) = false → ((-9223372036854775808 : Int) ≤ (↑es.length : Int) + (1 : Int) ∧ (↑es.length : Int) + (1 : Int) ≤ (9223372036854775807 : Int)) ∧ ((↑es.length : Int) + (1 : Int) = (↑es.length : Int) + (1 : Int) ∧ (0 : Int) ≤ (↑es.length : Int) + (1 : Int) ∧ ((↑es.length : Int) + (1 : Int)) * (↑(72 : Nat) : Int) ≤ (140737488355328 : Int)) ∧ ((0 : Int) ≤ (↑es.length : Int) ∧ (↑es.length : Int) < (↑(List.take (0 : Nat) (List.replicate ((↑es.length : Int) + (1 : Int)).toNat ((0 : Int), List.replicate (8 : Nat) (0 : Int))) ++ List.take (min es.length (List.replicate ((↑es.length : Int) + (1 : Int)).toNat ((0 : Int), List.replicate (8 : Nat) (0 : Int))).length) es ++ List.drop ((0 : Nat) + min es.length (List.replicate ((↑es.length : Int) + (1 : Int)).toNat ((0 : Int), List.replicate (8 : Nat) (0 : Int))).length) (List.replicate ((↑es.length : Int) + (1 : Int)).toNat ((0 : Int), List.replicate (8 : Nat) (0 : Int)))).length : Int)) ∧ (↑es.length : Int).toNat < (List.take (0 : Nat) (List.replicate ((↑es.length : Int) + (1 : Int)).toNat ((0 : Int), List.replicate (8 : Nat) (0 : Int))) ++ List.take (min es.length (List.replicate ((↑es.length : Int) + (1 : Int)).toNat ((0 : Int), List.replicate (8 : Nat) (0 : Int))).length) es ++ List.drop ((0 : Nat) + min es.length (List.replicate ((↑es.length : Int) + (1 : Int)).toNat ((0 : Int), List.replicate (8 : Nat) (0 : Int))).length) (List.replicate ((↑es.length : Int) + (1 : Int)).toNat ((0 : Int), List.replicate (8 : Nat) (0 : Int)))).length ∧ ∀ (z : Int × List Int), (List.take (0 : Nat) (List.replicate ((↑es.length : Int) + (1 : Int)).toNat ((0 : Int), List.replicate (8 : Nat) (0 : Int))) ++ List.take (min es.length (List.replicate ((↑es.length : Int) + (1 : Int)).toNat ((0 : Int), List.replicate (8 : Nat) (0 : Int))).length) es ++ List.drop ((0 : Nat) + min es.length (List.replicate ((↑es.length : Int) + (1 : Int)).toNat ((0 : Int), List.replicate (8 : Nat) (0 : Int))).length) (List.replicate ((↑es.length : Int) + (1 : Int)).toNat ((0 : Int), List.replicate (8 : Nat) (0 : Int))))[(↑es.length : Int).toNat]? = some z → ∃ (x : Int), ∃ (x_4 : Int), ∃ (x_5 : Int), ∃ (x_6 : List (Int × List Int)), ∃ (x_7 : List (List Int)), ((0 : Int) = x ∧ room = x_4 ∧ x_2 = x_5 ∧ (List.take (0 : Nat) (List.replicate ((↑es.length : Int) + (1 : Int)).toNat ((0 : Int), List.replicate (8 : Nat) (0 : Int))) ++ List.take (min es.length (List.replicate ((↑es.length : Int) + (1 : Int)).toNat ((0 : Int), List.replicate (8 : Nat) (0 : Int))).length) es ++ List.drop ((0 : Nat) + min es.length (List.replicate ((↑es.length : Int) + (1 : Int)).toNat ((0 : Int), List.replicate (8 : Nat) (0 : Int))).length) (List.replicate ((↑es.length : Int) + (1 : Int)).toNat ((0 : Int), List.replicate (8 : Nat) (0 : Int)))).set (↑es.length : Int).toNat (line, l) ≍ x_6 ∧ x_3 ≍ x_7 ∧ True) ∧ x = pushC ls.length room es.length line ∧ x_4 = room ∧ x_5 = vol ∧ (x_6 = if pushC ls.length room es.length line = (0 : Int) then es ++ (line, l) :: ([] : List (Int × List Int)) else es) ∧ x_7 = ls))) = _) ?_
    refine ⟨trivial, ?_⟩
    rintro (l0 : LN) _ (vol : Int) (ls : List LN) ⟨rfl, rfl, rfl, rfl⟩
    have hp : room ≤ 16 := hp
    have hx : (Int.ofNat es.length).toNat = es.length := rfl
    by_cases h : 0 ≤ line ∧ line < ls.length
    · have hc : pushC ls.length room es.length line = (if (es.length : Int) < room then 0 else 13) := if_pos h
      rw [mayD_in h, hc]
      refine ⟨(fun h => by cases h), fun _ => ⟨fun h1 => ?_, fun h1 => ?_⟩⟩
      · simp only [decide_eq_true_eq] at h1
        rw [if_neg (show ¬ (es.length : Int) < room by omega)]
        exact ⟨_, _, _, _, _, ⟨rfl, rfl, rfl, HEq.rfl, HEq.rfl, trivial⟩, rfl, rfl, rfl, rfl, rfl⟩
      · simp only [decide_eq_false_iff_not] at h1
        rw [if_pos (show (es.length : Int) < room by omega), copy_new]
        refine ⟨by omega, ⟨rfl, by omega, by omega⟩, ⟨by omega, by simp; omega⟩, by simp, fun z hz => ⟨_, _, _, _, _, ⟨rfl, rfl, rfl, HEq.rfl, HEq.rfl, trivial⟩, rfl, rfl, rfl, ?_, rfl⟩⟩
        simp
    · have hc : pushC ls.length room es.length line = 12 := if_neg h
      rw [mayD_out h, hc]
      exact ⟨fun _ => ⟨_, _, _, _, _, ⟨rfl, rfl, rfl, HEq.rfl, HEq.rfl, trivial⟩, rfl, rfl, rfl, rfl, rfl⟩, (fun h => by cases h)⟩
  case b =>
    intro line l hp hr hh
    refine ⟨noLoop, ?_⟩
    refine Eq.mp (by kernel_rfl : (∃ (x : Int), ((1 : Int) = x ∧ True) ∧ x = (1 : Int)) = _) ?_
    exact ⟨_, ⟨rfl, trivial⟩, rfl⟩
def len1 : PT where
  ps := [.one (.p 0 0)]
  rg := quR
  na := 4
  rs := [.one I]
  out := quR
  nx := 4
  pre := fun _ => True
  post := fun (room, vol, es, ls, _) (e, room', vol', es', ls', _) => e = es.length ∧ room' = room ∧ vol' = vol ∧ es' = es ∧ ls' = ls
def len2 : PT where
  ps := [.one .nil]
  rg := []
  na := 0
  rs := [.one I]
  out := []
  nx := 0
  pre := fun _ => True
  post := fun _ (e, _) => e = 0
theorem v12 : Valid Try.prog 12 (.full (callsP [len1, len2])) := by
  refine valid_Ps mixed Tbl_ok L3_ok Try.func12 call12 ⟨?a, ?b, trivial⟩
  case a =>
    intro (room : Int) (vol : Int) (es : List EN) (ls : List LN) hp hr hh
    refine ⟨noLoop, ?_⟩
    refine Eq.mp (by kernel_rfl : (∃ (x : Int), ∃ (x_1 : Int), ∃ (x_2 : Int), ∃ (x_3 : List (Int × List Int)), ∃ (x_4 : List (List Int)), ((↑es.length : Int) = x ∧ room = x_1 ∧ vol = x_2 ∧ es ≍ x_3 ∧ ls ≍ x_4 ∧ True) ∧ x = (↑es.length : Int) ∧ x_1 = room ∧ x_2 = vol ∧ x_3 = es ∧ x_4 = ls) = _) ?_
    exact ⟨_, _, _, _, _, ⟨rfl, rfl, rfl, HEq.rfl, HEq.rfl, trivial⟩, rfl, rfl, rfl, rfl, rfl⟩
  case b =>
    intro hp hr hh
    refine ⟨noLoop, ?_⟩
    refine Eq.mp (by kernel_rfl : (∃ (x : Int), ((0 : Int) = x ∧ True) ∧ x = (0 : Int)) = _) ?_
    exact ⟨_, ⟨rfl, trivial⟩, rfl⟩
def qimg (es : List EN) (ls : List LN) : List LN := es.foldl (fun a x => a.set x.1.toNat x.2) ls
def qIn (es : List EN) (n : Nat) : Prop := ∀ x ∈ es, 0 ≤ x.1 ∧ x.1 < n
def qimage1 : PT where
  ps := [.one (.p 0 0)]
  rg := quR
  na := 4
  rs := [.one (.s 4)]
  out := quR ++ [(4, .own 34 shW)]
  nx := 5
  pre := fun (_, _, es, ls, _) => qIn es ls.length ∧ ls.length * 64 ≤ 140737488355328
  post := fun (room, vol, es, ls, _) (room', vol', es', ls', a, _) => room' = room ∧ vol' = vol ∧ es' = es ∧ ls' = ls ∧ a = qimg es ls
def qimage2 : PT where
  ps := [.one .nil]
  rg := []
  na := 0
  rs := [.one (.s 0)]
  out := [(0, .own 34 shW)]
  nx := 1
  pre := fun _ => True
  post := fun _ (b, _) => b = []
abbrev vi (z : Int) : CV := .val (.int .i64 z)
abbrev quH (room vol : Int) (es : List EN) (ls : List LN) : List (Nat × Ck) := [(0, .blk [.ptr 1 0, vi room, .sl 2] 79), (1, .blk [.sl 3, vi vol, .nm .i64, .nm .i64] 76), (2, .own 81 shE es), (3, .own 34 shW ls)]
theorem qimg_len (es : List EN) (ls : List LN) : (qimg es ls).length = ls.length := by
  induction es generalizing ls with
  | nil => rfl
  | cons x r ih => show (qimg r (ls.set x.1.toNat x.2)).length = _; rw [ih, List.length_set]
theorem qimg_take {es : List EN} {k : Nat} {x : EN} (h : es[k]? = some x) (ls : List LN) : qimg (es.take (k + 1)) ls = (qimg (es.take k) ls).set x.1.toNat x.2 := by
  rw [List.take_add_one, h]
  simp [qimg, List.foldl_append]
theorem qimg_all {es : List EN} {k : Nat} (h : ¬ k < es.length) (ls : List LN) : qimg (es.take k) ls = qimg es ls := by rw [List.take_of_length_le (by omega)]
abbrev lp15 (room vol : Int) (es : List EN) (ls : List LN) : Nat → Option LoopSp := fun _ => some { X := Nat, sl := fun k => [(3, .one (.sl 4)), (16, .one (.sl 2)), (17, .one (vi es.length)), (18, .one (vi k))], h := fun k => quH room vol es ls ++ [(4, .own 34 shW (qimg (es.take k) ls))], nx := 5, inv := fun k => k ≤ es.length, mu := fun k => es.length - k }
theorem v15 : Valid Try.prog 15 (.full (callsP [qimage1, qimage2])) := by
  refine valid_Ps mixed Tbl_ok L3_ok Try.func15 call15 ⟨?a, ?b, trivial⟩
  case a =>
    intro (room : Int) (vol : Int) (es : List EN) (ls : List LN) hp hr hh
    refine ⟨lp15 room vol es ls, ?_⟩
    refine Eq.mp (by kernel_rfl : (ls.length * (64 : Nat) ≤ (140737488355328 : Nat) ∧ ∀ (x : Int) (x_1 x_2 : List (List Int)), x = vol ∧ x_1 = ls ∧ x_2 = ls → (∃ (x_3 : Nat), x_3 ≤ es.length ∧ (↑es.length : Int) = (↑es.length : Int) ∧ (0 : Int) = (↑x_3 : Int) ∧ room = room ∧ x = vol ∧ es ≍ es ∧ x_1 ≍ ls ∧ x_2 ≍ qimg (List.take x_3 es) ls ∧ True) ∧ ∀ (x : Nat), x ≤ es.length → (decide ((↑x : Int) < (↑es.length : Int)) = true → ((0 : Int) ≤ (↑x : Int) ∧ (↑x : Int) < (↑es.length : Int)) ∧ (↑x : Int).toNat < es.length ∧ ∀ (y : Int × List Int), es[(↑x : Int).toNat]? = some y → ((0 : Int) ≤ y.fst ∧ y.fst < (↑(qimg (List.take x es) ls).length : Int)) ∧ y.fst.toNat < (qimg (List.take x es) ls).length ∧ ∀ (z : List Int), (qimg (List.take x es) ls)[y.fst.toNat]? = some z → ((-9223372036854775808 : Int) ≤ (↑x : Int) + (1 : Int) ∧ (↑x : Int) + (1 : Int) ≤ (9223372036854775807 : Int)) ∧ ∃ (y_1 : Nat), y_1 ≤ es.length ∧ es.length - y_1 < es.length - x ∧ (↑es.length : Int) = (↑es.length : Int) ∧ (↑x : Int) + (1 : Int) = (↑y_1 : Int) ∧ room = room ∧ vol = vol ∧ es ≍ es ∧ ls ≍ ls ∧ (qimg (List.take x es) ls).set y.fst.toNat y.snd ≍ qimg (List.take y_1 es) ls ∧ True) ∧ (decide ((↑x : Int) < (↑es.length : Int)) = false → ∃ (x_3 : Int), ∃ (x_4 : Int), ∃ (x_5 : List (Int × List Int)), ∃ (x_6 : List (List Int)), ∃ (x_7 : List (List Int)), (room = x_3 ∧ vol = x_4 ∧ es ≍ x_5 ∧ ls ≍ x_6 ∧ qimg (List.take x es) ls ≍ x_7 ∧ True) ∧ x_3 = room ∧ x_4 = vol ∧ x_5 = es ∧ x_6 = ls ∧ x_7 = qimg es ls)) = _) ?_
    have hp : qIn es ls.length ∧ ls.length * 64 ≤ 140737488355328 := hp
    have hl : es.length ≤ maxLen := hh.2.2.1.1
    refine ⟨hp.2, ?_⟩
    rintro (vol : Int) (l1 : List LN) (ls : List LN) ⟨rfl, rfl, h⟩
    subst h
    unfold maxLen at hl
    refine ⟨⟨0, by omega, rfl, rfl, rfl, rfl, HEq.rfl, HEq.rfl, HEq.rfl, trivial⟩, fun k hk => ⟨fun h1 => ?_, fun h1 => ?_⟩⟩
    · simp only [decide_eq_true_eq] at h1
      refine ⟨by omega, by omega, fun y hy => ?_⟩
      rw [Int.toNat_natCast] at hy
      have hy2 := hp.1 y (List.mem_of_getElem? hy)
      rw [qimg_len]
      refine ⟨hy2, by omega, fun z hz => ⟨by omega, k + 1, by omega, by omega, rfl, rfl, rfl, rfl, HEq.rfl, HEq.rfl, ?_, trivial⟩⟩
      rw [qimg_take hy]
    · simp only [decide_eq_false_iff_not] at h1
      rw [qimg_all (by omega)]
      exact ⟨_, _, _, _, _, ⟨rfl, rfl, HEq.rfl, HEq.rfl, HEq.rfl, trivial⟩, rfl, rfl, rfl, rfl, rfl⟩
  case b =>
    intro hp hr hh
    refine ⟨noLoop, ?_⟩
    refine Eq.mp (by kernel_rfl : (∃ (x : List (List Int)), (x = ([] : List (List Int)) ∧ True) ∧ x = ([] : List (List Int))) = _) ?_
    exact ⟨_, ⟨rfl, trivial⟩, rfl⟩
def lines1 : PT where
  ps := [.one (.p 0 0)]
  rg := quR
  na := 4
  rs := [.one (.s 4)]
  out := quR ++ [(4, .own 3 (.int .i64))]
  nx := 5
  pre := fun (_, _, es, _, _) => es.length ≤ 16
  post := fun (room, vol, es, ls, _) (room', vol', es', ls', a, _) => room' = room ∧ vol' = vol ∧ es' = es ∧ ls' = ls ∧ a = es.map Prod.fst
def lines2 : PT where
  ps := [.one .nil]
  rg := []
  na := 0
  rs := [.one (.s 0)]
  out := [(0, .own 3 (.int .i64))]
  nx := 1
  pre := fun _ => True
  post := fun _ (b, _) => b = []
abbrev lp30 (room vol : Int) (es : List EN) (ls : List LN) : Nat → Option LoopSp := fun _ => some { X := Nat, sl := fun k => [(3, .one (.sl 4)), (11, .one (.sl 2)), (12, .one (vi es.length)), (13, .one (vi k))], h := fun k => quH room vol es ls ++ [(4, .own 3 (.int .i64) ((es.take k).map Prod.fst))], nx := 5, inv := fun k => k ≤ es.length, mu := fun k => es.length - k }
theorem v30 : Valid Try.prog 30 (.full (callsP [lines1, lines2])) := by
  refine valid_Ps mixed Tbl_ok L3_ok Try.func30 call30 ⟨?a, ?b, trivial⟩
  case a =>
    intro (room : Int) (vol : Int) (es : List EN) (ls : List LN) hp hr hh
    refine ⟨lp30 room vol es ls, ?_⟩
    refine Eq.mp (by kernel_rfl : ((∃ (x : Nat), x ≤ es.length ∧ (↑es.length : Int) = (↑es.length : Int) ∧ (0 : Int) = (↑x : Int) ∧ room = room ∧ vol = vol ∧ es ≍ es ∧ ls ≍ ls ∧ List.map (fun (self : Int × LN) => self.1) (List.take x es) = ([] : List Int) ∧ True) ∧ ∀ (x : Nat), x ≤ es.length → (decide ((↑x : Int) < (↑es.length : Int)) = true → ((0 : Int) ≤ (↑x : Int) ∧ (↑x : Int) < (↑es.length : Int)) ∧ (↑x : Int).toNat < es.length ∧ ∀ (y : Int × List Int), es[(↑x : Int).toNat]? = some y → ((List.map (fun (self : Int × LN) => self.1) (List.take x es)).length + (y.fst :: ([] : List Int)).length) * (8 : Nat) ≤ (140737488355328 : Nat) ∧ ((-9223372036854775808 : Int) ≤ (↑x : Int) + (1 : Int) ∧ (↑x : Int) + (1 : Int) ≤ (9223372036854775807 : Int)) ∧ ∃ (y_1 : Nat), y_1 ≤ es.length ∧ es.length - y_1 < es.length - x ∧ (↑es.length : Int) = (↑es.length : Int) ∧ (↑x : Int) + (1 : Int) = (↑y_1 : Int) ∧ room = room ∧ vol = vol ∧ es ≍ es ∧ ls ≍ ls ∧ List.map (fun (self : Int × LN) => self.1) (List.take x es) ++ y.fst :: ([] : List Int) ≍ List.map (fun (self : Int × LN) => self.1) (List.take y_1 es) ∧ True) ∧ (decide ((↑x : Int) < (↑es.length : Int)) = false → ∃ (x_1 : Int), ∃ (x_2 : Int), ∃ (x_3 : List (Int × List Int)), ∃ (x_4 : List (List Int)), ∃ (x_5 : List Int), (room = x_1 ∧ vol = x_2 ∧ es ≍ x_3 ∧ ls ≍ x_4 ∧ List.map (fun (self : Int × LN) => self.1) (List.take x es) ≍ x_5 ∧ True) ∧ x_1 = room ∧ x_2 = vol ∧ x_3 = es ∧ x_4 = ls ∧ x_5 = List.map (fun (self : Int × List Int) => self.1) es)) = _) ?_
    have hp : es.length ≤ 16 := hp
    refine ⟨⟨0, by omega, rfl, rfl, rfl, rfl, HEq.rfl, HEq.rfl, rfl, trivial⟩, fun k hk => ⟨fun h1 => ?_, fun h1 => ?_⟩⟩
    · simp only [decide_eq_true_eq] at h1
      refine ⟨by omega, by omega, fun y hy => ?_⟩
      rw [Int.toNat_natCast] at hy
      refine ⟨by simp; omega, by omega, k + 1, by omega, by omega, rfl, rfl, rfl, rfl, HEq.rfl, HEq.rfl, ?_, trivial⟩
      rw [List.take_add_one, hy]
      simp
    · simp only [decide_eq_false_iff_not] at h1
      rw [List.take_of_length_le (by omega)]
      exact ⟨_, _, _, _, _, ⟨rfl, rfl, HEq.rfl, HEq.rfl, HEq.rfl, trivial⟩, rfl, rfl, rfl, rfl, rfl⟩
  case b =>
    intro hp hr hh
    refine ⟨noLoop, ?_⟩
    refine Eq.mp (by kernel_rfl : (∃ (x : List Int), (x = ([] : List Int) ∧ True) ∧ x = ([] : List Int)) = _) ?_
    exact ⟨_, ⟨rfl, trivial⟩, rfl⟩
end Go.Proofs.Ytgaiedcmohpiaaa.V
