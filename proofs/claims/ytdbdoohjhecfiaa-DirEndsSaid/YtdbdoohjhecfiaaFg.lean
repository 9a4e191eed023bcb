import Derived.KernelRfl
import Derived.Test.YtdbdoohjhecfiaaFf
namespace Go.Proofs.Ytdbdoohjhecfiaa.V
open Go.RowKit Go.Proofs.Ytdbdoohjhecfiaa
set_option linter.unusedSimpArgs false
abbrev L9 : List (Nat × Spec) := (33, N (S0 asksR)) :: (24, Q (onEIM fun e c m => outR (answF e c m))) :: (26, Q (onE fun e => outR (pushF e))) :: L8
theorem L9_all : ∀ p ∈ L9, Valid Try.prog p.1 p.2 := vcons v33 (vcons v24 (vcons v26 L8_all))
theorem L9_ok : ∀ f S, spL L9 f = some S → Valid Try.prog f S := spL_ok L9_all
theorem v49 : Valid Try.prog 49 (.full (inl Tbl (spL L9) Try.f49 noLp)) := valid_inl mixed Tbl_ok L9_ok Try.func49 call49 noLp
abbrev L10 : List (Nat × Spec) := (49, .full (inl Tbl (spL L9) Try.f49 noLp)) :: L9
theorem L10_all : ∀ p ∈ L10, Valid Try.prog p.1 p.2 := vcons v49 L9_all
theorem L10_ok : ∀ f S, spL L10 f = some S → Valid Try.prog f S := spL_ok L10_all
/-- A move's cells. -/
abbrev encV (e : E) (l : Int) (out : CV) : List CV := [vb e.here, vb e.dirty, .run .u64 8 e.data, vi e.owner, v8 e.share, vi e.busy, vi e.by_, v8 e.wait, vi l, out]
structure W57 where
  e : E
  line : Int
  xs : List Sd
  k : Int
  y : Int
  c : Int
  kd : Int
def outOf (st : St) : CV → Option (List Sd)
  | .sl j => (match look st.h j with
    | some (.own _ a xs) => (match h : eqSh a shS with | true => some (castL h xs) | false => none)
    | _ => none)
  | .val (.slice none 0 0) => some []
  | _ => none
def inst57 (args : List Vl) (st : St) : Option W57 :=
  match args with
  | [.one (.ptr i _), .one k, .one y, .one c, .one kd] => (match intV k, intV y, intV c, intV kd, look st.h i with
    | some (_, k), some (_, y), some (_, c), some (_, kd), some (.blk [a, b, .run _ _ d, o, s, b', y', w, l, out] _) => (match boolV a, boolV b, intV o, intV s, intV b', intV y' with
      | some a, some b, some (_, o), some (_, s), some (_, b'), some (_, y') => (match intV w, intV l, outOf st out with
        | some (_, w), some (_, l), some xs => some ⟨⟨a, b, d, o, s, b', y', w⟩, l, xs, k, y, c, kd⟩
        | _, _, _ => none)
      | _, _, _, _, _, _ => none)
    | _, _, _, _, _ => none)
  | _ => none
def T57 : FT where
  X := W57
  Y := Unit
  inst := inst57
  args x := [.one (.ptr 0 0), .one (vi x.k), .one (vi x.y), .one (v8 x.c), .one (vi x.kd)]
  h x := [(0, .blk (encV x.e x.line (.sl 1)) 64), (1, .own 39 shS x.xs)]
  na := 2
  pre x := (x.kd = 12 ∨ x.kd = 13) ∧ x.xs.length ≤ 1000
  post _ _ := True
  res _ _ := .tup []
  out x _ := [(0, .blk (encV (busyF x.e x.k x.y x.c) x.line (.sl 2)) 64), (2, .own 39 shS (x.xs ++ allF x.c x.kd x.line))]
  nx := 3
def lp57 (x : W57) : Nat → Option LoopSp := fun _ => some { X := Nat, sl := fun i => [(0, .one (.ptr 0 0)), (4, .one (vi x.kd)), (28, .one (.rd (.int .i64) (coresF x.c))), (29, .one (vi (coresF x.c).length)), (30, .one (vi i))], h := fun i => [(0, .blk (encV (busyF x.e x.k x.y x.c) x.line (.sl 2)) 64), (2, .own 39 shS (x.xs ++ (allF x.c x.kd x.line).take i))], nx := 3, inv := fun i => i ≤ (coresF x.c).length, mu := fun i => (coresF x.c).length - i }
set_option maxRecDepth 100000 in
theorem v57 : Valid Try.prog 57 (.full T57.call) := by
  refine valid_full mixed Tbl_ok L10_ok Try.func57 call57 fun x hp hr => ?_
  obtain ⟨⟨a, b, d, o, s, b', y', w⟩, l, xs, k, y, c, kd⟩ := x
  refine ⟨lp57 ⟨⟨a, b, d, o, s, b', y', w⟩, l, xs, k, y, c, kd⟩, ?_⟩
  refine Eq.mp (by kernel_rfl : ((∃ (x : Nat), x ≤ (coresF c).length ∧ kd = kd ∧ coresF c ≍ coresF c ∧ (↑(coresF c).length : Int) = (↑(coresF c).length : Int) ∧ (0 : Int) = (↑x : Int) ∧ a = a ∧ b = b ∧ d = d ∧ o = o ∧ s = s ∧ k = k ∧ y = y ∧ c = c ∧ l = l ∧ xs ≍ xs ++ List.take x (allF c kd l) ∧ True) ∧ ∀ (x : Nat), x ≤ (coresF c).length → (decide ((↑x : Int) < (↑(coresF c).length : Int)) = true → ((0 : Int) ≤ (↑x : Int) ∧ (↑x : Int) < (↑(coresF c).length : Int)) ∧ ∀ (y_1 : (Sh.int IntKind.i64).T), (coresF c)[(↑x : Int).toNat]? = some y_1 → ((kd == (8 : Int)) = true → ((kd == (8 : Int)) = true → ((xs ++ List.take x (allF c kd l)).length + ((y_1, kd, l, false, false, d) :: ([] : List ((Sh.int IntKind.i64).pair ((Sh.int IntKind.i64).pair ((Sh.int IntKind.i64).pair (Sh.bool.pair (Sh.bool.pair (Sh.arr (8 : Nat) IntKind.u64)))))).T)).length) * (96 : Nat) ≤ (140737488355328 : Nat) ∧ ((-9223372036854775808 : Int) ≤ (↑x : Int) + (1 : Int) ∧ (↑x : Int) + (1 : Int) ≤ (9223372036854775807 : Int)) ∧ ∃ (y_2 : Nat), y_2 ≤ (coresF c).length ∧ (coresF c).length - y_2 < (coresF c).length - x ∧ kd = kd ∧ coresF c ≍ coresF c ∧ (↑(coresF c).length : Int) = (↑(coresF c).length : Int) ∧ (↑x : Int) + (1 : Int) = (↑y_2 : Int) ∧ a = a ∧ b = b ∧ d = d ∧ o = o ∧ s = s ∧ k = k ∧ y = y ∧ c = c ∧ l = l ∧ xs ++ List.take x (allF c kd l) ++ (y_1, kd, l, false, false, d) :: ([] : List ((Sh.int IntKind.i64).pair ((Sh.int IntKind.i64).pair ((Sh.int IntKind.i64).pair (Sh.bool.pair (Sh.bool.pair (Sh.arr (8 : Nat) IntKind.u64)))))).T) ≍ xs ++ List.take y_2 (allF c kd l) ∧ True) ∧ ((kd == (8 : Int)) = false → ((xs ++ List.take x (allF c kd l)).length + ((y_1, kd, l, false, false, List.replicate (8 : Nat) (0 : Int)) :: ([] : List ((Sh.int IntKind.i64).pair ((Sh.int IntKind.i64).pair ((Sh.int IntKind.i64).pair (Sh.bool.pair (Sh.bool.pair (Sh.arr (8 : Nat) IntKind.u64)))))).T)).length) * (96 : Nat) ≤ (140737488355328 : Nat) ∧ ((-9223372036854775808 : Int) ≤ (↑x : Int) + (1 : Int) ∧ (↑x : Int) + (1 : Int) ≤ (9223372036854775807 : Int)) ∧ ∃ (y_2 : Nat), y_2 ≤ (coresF c).length ∧ (coresF c).length - y_2 < (coresF c).length - x ∧ kd = kd ∧ coresF c ≍ coresF c ∧ (↑(coresF c).length : Int) = (↑(coresF c).length : Int) ∧ (↑x : Int) + (1 : Int) = (↑y_2 : Int) ∧ a = a ∧ b = b ∧ d = d ∧ o = o ∧ s = s ∧ k = k ∧ y = y ∧ c = c ∧ l = l ∧ xs ++ List.take x (allF c kd l) ++ (y_1, kd, l, false, false, List.replicate (8 : Nat) (0 : Int)) :: ([] : List ((Sh.int IntKind.i64).pair ((Sh.int IntKind.i64).pair ((Sh.int IntKind.i64).pair (Sh.bool.pair (Sh.bool.pair (Sh.arr (8 : Nat) IntKind.u64)))))).T) ≍ xs ++ List.take y_2 (allF c kd l) ∧ True)) ∧ ((kd == (8 : Int)) = false → ((kd == (9 : Int)) = true → ((kd == (9 : Int)) = true → ((xs ++ List.take x (allF c kd l)).length + ((y_1, kd, l, false, false, d) :: ([] : List ((Sh.int IntKind.i64).pair ((Sh.int IntKind.i64).pair ((Sh.int IntKind.i64).pair (Sh.bool.pair (Sh.bool.pair (Sh.arr (8 : Nat) IntKind.u64)))))).T)).length) * (96 : Nat) ≤ (140737488355328 : Nat) ∧ ((-9223372036854775808 : Int) ≤ (↑x : Int) + (1 : Int) ∧ (↑x : Int) + (1 : Int) ≤ (9223372036854775807 : Int)) ∧ ∃ (y_2 : Nat), y_2 ≤ (coresF c).length ∧ (coresF c).length - y_2 < (coresF c).length - x ∧ kd = kd ∧ coresF c ≍ coresF c ∧ (↑(coresF c).length : Int) = (↑(coresF c).length : Int) ∧ (↑x : Int) + (1 : Int) = (↑y_2 : Int) ∧ a = a ∧ b = b ∧ d = d ∧ o = o ∧ s = s ∧ k = k ∧ y = y ∧ c = c ∧ l = l ∧ xs ++ List.take x (allF c kd l) ++ (y_1, kd, l, false, false, d) :: ([] : List ((Sh.int IntKind.i64).pair ((Sh.int IntKind.i64).pair ((Sh.int IntKind.i64).pair (Sh.bool.pair (Sh.bool.pair (Sh.arr (8 : Nat) IntKind.u64)))))).T) ≍ xs ++ List.take y_2 (allF c kd l) ∧ True) ∧ ((kd == (9 : Int)) = false → ((xs ++ List.take x (allF c kd l)).length + ((y_1, kd, l, false, false, List.replicate (8 : Nat) (0 : Int)) :: ([] : List ((Sh.int IntKind.i64).pair ((Sh.int IntKind.i64).pair ((Sh.int IntKind.i64).pair (Sh.bool.pair (Sh.bool.pair (Sh.arr (8 : Nat) IntKind.u64)))))).T)).length) * (96 : Nat) ≤ (140737488355328 : Nat) ∧ ((-9223372036854775808 : Int) ≤ (↑x : Int) + (1 : Int) ∧ (↑x : Int) + (1 : Int) ≤ (9223372036854775807 : Int)) ∧ ∃ (y_2 : Nat), y_2 ≤ (coresF c).length ∧ (coresF c).length - y_2 < (coresF c).length - x ∧ kd = kd ∧ coresF c ≍ coresF c ∧ (↑(coresF c).length : Int) = (↑(coresF c).length : Int) ∧ (↑x : Int) + (1 : Int) = (↑y_2 : Int) ∧ a = a ∧ b = b ∧ d = d ∧ o = o ∧ s = s ∧ k = k ∧ y = y ∧ c = c ∧ l = l ∧ xs ++ List.take x (allF c kd l) ++ (y_1, kd, l, false, false, List.replicate (8 : Nat) (0 : Int)) :: ([] : List ((Sh.int IntKind.i64).pair ((Sh.int IntKind.i64).pair ((Sh.int IntKind.i64).pair (Sh.bool.pair (Sh.bool.pair (Sh.arr (8 : Nat) IntKind.u64)))))).T) ≍ xs ++ List.take y_2 (allF c kd l) ∧ True)) ∧ ((kd == (9 : Int)) = false → ((kd == (10 : Int)) = true → ((xs ++ List.take x (allF c kd l)).length + ((y_1, kd, l, false, false, d) :: ([] : List ((Sh.int IntKind.i64).pair ((Sh.int IntKind.i64).pair ((Sh.int IntKind.i64).pair (Sh.bool.pair (Sh.bool.pair (Sh.arr (8 : Nat) IntKind.u64)))))).T)).length) * (96 : Nat) ≤ (140737488355328 : Nat) ∧ ((-9223372036854775808 : Int) ≤ (↑x : Int) + (1 : Int) ∧ (↑x : Int) + (1 : Int) ≤ (9223372036854775807 : Int)) ∧ ∃ (y_2 : Nat), y_2 ≤ (coresF c).length ∧ (coresF c).length - y_2 < (coresF c).length - x ∧ kd = kd ∧ coresF c ≍ coresF c ∧ (↑(coresF c).length : Int) = (↑(coresF c).length : Int) ∧ (↑x : Int) + (1 : Int) = (↑y_2 : Int) ∧ a = a ∧ b = b ∧ d = d ∧ o = o ∧ s = s ∧ k = k ∧ y = y ∧ c = c ∧ l = l ∧ xs ++ List.take x (allF c kd l) ++ (y_1, kd, l, false, false, d) :: ([] : List ((Sh.int IntKind.i64).pair ((Sh.int IntKind.i64).pair ((Sh.int IntKind.i64).pair (Sh.bool.pair (Sh.bool.pair (Sh.arr (8 : Nat) IntKind.u64)))))).T) ≍ xs ++ List.take y_2 (allF c kd l) ∧ True) ∧ ((kd == (10 : Int)) = false → ((xs ++ List.take x (allF c kd l)).length + ((y_1, kd, l, false, false, List.replicate (8 : Nat) (0 : Int)) :: ([] : List ((Sh.int IntKind.i64).pair ((Sh.int IntKind.i64).pair ((Sh.int IntKind.i64).pair (Sh.bool.pair (Sh.bool.pair (Sh.arr (8 : Nat) IntKind.u64)))))).T)).length) * (96 : Nat) ≤ (140737488355328 : Nat) ∧ ((-9223372036854775808 : Int) ≤ (↑x : Int) + (1 : Int) ∧ (↑x : Int) + (1 : Int) ≤ (9223372036854775807 : Int)) ∧ ∃ (y_2 : Nat), y_2 ≤ (coresF c).length ∧ (coresF c).length - y_2 < (coresF c).length - x ∧ kd = kd ∧ coresF c ≍ coresF c ∧ (↑(coresF c).length : Int) = (↑(coresF c).length : Int) ∧ (↑x : Int) + (1 : Int) = (↑y_2 : Int) ∧ a = a ∧ b = b ∧ d = d ∧ o = o ∧ s = s ∧ k = k ∧ y = y ∧ c = c ∧ l = l ∧ xs ++ List.take x (allF c kd l) ++ (y_1, kd, l, false, false, List.replicate (8 : Nat) (0 : Int)) :: ([] : List ((Sh.int IntKind.i64).pair ((Sh.int IntKind.i64).pair ((Sh.int IntKind.i64).pair (Sh.bool.pair (Sh.bool.pair (Sh.arr (8 : Nat) IntKind.u64)))))).T) ≍ xs ++ List.take y_2 (allF c kd l) ∧ True)))) ∧ (decide ((↑x : Int) < (↑(coresF c).length : Int)) = false → ∃ (y_1 : Unit), True ∧ a = a ∧ b = b ∧ d = d ∧ o = o ∧ s = s ∧ k = k ∧ y = y ∧ c = c ∧ l = l ∧ xs ++ List.take x (allF c kd l) ≍ xs ++ allF c kd l ∧ True)) = _) ?_
  obtain ⟨hk, hx⟩ : (kd = 12 ∨ kd = 13) ∧ xs.length ≤ 1000 := hp
  have h8 := cores_len c
  have e8 : (kd == (8 : Int)) = false := by rcases hk with rfl | rfl <;> rfl
  have e9 : (kd == (9 : Int)) = false := by rcases hk with rfl | rfl <;> rfl
  have e10 : (kd == (10 : Int)) = false := by rcases hk with rfl | rfl <;> rfl
  simp only [e8, e9, e10, Bool.false_eq_true, false_implies, true_and, forall_const, heq_eq_eq, and_true, decide_eq_true_eq, decide_eq_false_iff_not, Int.toNat_natCast]
  refine ⟨⟨0, by omega, rfl, by simp⟩, fun x hx' => ⟨fun hl => ⟨by omega, fun z hz => ⟨?_, by omega, x + 1, by omega, by omega, by omega, ?_⟩⟩, fun hl => ?_⟩⟩
  · simp; omega
  · unfold allF
    rw [List.take_add_one]
    simp only [List.getElem?_map]
    rw [show (coresF c)[x]? = some z from hz, List.append_assoc]
    rfl
  · have : x = (coresF c).length := by omega
    subst this
    rw [List.take_of_length_le (by simp [allF])]
    exact ⟨(), rfl⟩
abbrev L11 : List (Nat × Spec) := (57, .full T57.call) :: L10
theorem L11_all : ∀ p ∈ L11, Valid Try.prog p.1 p.2 := vcons v57 L10_all
theorem L11_ok : ∀ f S, spL L11 f = some S → Valid Try.prog f S := spL_ok L11_all
theorem v45 : Valid Try.prog 45 (.full (inl Tbl (spL L11) Try.f45 noLp)) := valid_inl mixed Tbl_ok L11_ok Try.func45 call45 noLp
theorem v47 : Valid Try.prog 47 (.full (inl Tbl (spL L11) Try.f47 noLp)) := valid_inl mixed Tbl_ok L11_ok Try.func47 call47 noLp
theorem v46 : Valid Try.prog 46 (.full (inl Tbl (spL L11) Try.f46 noLp)) := valid_inl mixed Tbl_ok L11_ok Try.func46 call46 noLp
theorem v58 : Valid Try.prog 58 (.full (inl Tbl (spL L11) Try.f58 noLp)) := valid_inl mixed Tbl_ok L11_ok Try.func58 call58 noLp
theorem v44 : Valid Try.prog 44 (.full (inl Tbl (spL L11) Try.f44 noLp)) := valid_inl mixed Tbl_ok L11_ok Try.func44 call44 noLp
abbrev L12 : List (Nat × Spec) := (45, .full (inl Tbl (spL L11) Try.f45 noLp)) :: (47, .full (inl Tbl (spL L11) Try.f47 noLp)) :: (46, .full (inl Tbl (spL L11) Try.f46 noLp)) :: (58, .full (inl Tbl (spL L11) Try.f58 noLp)) :: (44, .full (inl Tbl (spL L11) Try.f44 noLp)) :: L11
theorem L12_all : ∀ p ∈ L12, Valid Try.prog p.1 p.2 := vcons v45 (vcons v47 (vcons v46 (vcons v58 (vcons v44 (L11_all)))))
theorem L12_ok : ∀ f S, spL L12 f = some S → Valid Try.prog f S := spL_ok L12_all
theorem v51 : Valid Try.prog 51 (.full (inl Tbl (spL L12) Try.f51 noLp)) := valid_inl mixed Tbl_ok L12_ok Try.func51 call51 noLp
theorem v52 : Valid Try.prog 52 (.full (inl Tbl (spL L12) Try.f52 noLp)) := valid_inl mixed Tbl_ok L12_ok Try.func52 call52 noLp
theorem v53 : Valid Try.prog 53 (.full (inl Tbl (spL L12) Try.f53 noLp)) := valid_inl mixed Tbl_ok L12_ok Try.func53 call53 noLp
theorem v54 : Valid Try.prog 54 (.full (inl Tbl (spL L12) Try.f54 noLp)) := valid_inl mixed Tbl_ok L12_ok Try.func54 call54 noLp
theorem v55 : Valid Try.prog 55 (.full (inl Tbl (spL L12) Try.f55 noLp)) := valid_inl mixed Tbl_ok L12_ok Try.func55 call55 noLp
abbrev L13 : List (Nat × Spec) := (51, .full (inl Tbl (spL L12) Try.f51 noLp)) :: (52, .full (inl Tbl (spL L12) Try.f52 noLp)) :: (53, .full (inl Tbl (spL L12) Try.f53 noLp)) :: (54, .full (inl Tbl (spL L12) Try.f54 noLp)) :: (55, .full (inl Tbl (spL L12) Try.f55 noLp)) :: L12
theorem L13_all : ∀ p ∈ L13, Valid Try.prog p.1 p.2 := vcons v51 (vcons v52 (vcons v53 (vcons v54 (vcons v55 (L12_all)))))
theorem L13_ok : ∀ f S, spL L13 f = some S → Valid Try.prog f S := spL_ok L13_all
end Go.Proofs.Ytdbdoohjhecfiaa.V
