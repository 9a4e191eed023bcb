import Derived.KernelRfl
import Derived.Test.YtdbdoohjhecfiaaFc
namespace Go.Proofs.Ytdbdoohjhecfiaa.V
open Go.RowKit Go.Proofs.Ytdbdoohjhecfiaa
set_option linter.unusedSimpArgs false
abbrev L5 : List (Nat × Spec) := (16, N (onE fun m => mkB (readyF m))) :: (17, N (onE fun m => mkB (readyF m))) :: (20, N (S0 (.v (.agg (encE emptyE))))) :: (21, N (S0 (.v (.agg (encE emptyE))))) :: (10, N (onE fun e => .v (.agg (encE e)))) :: L4
theorem L5_all : ∀ p ∈ L5, Valid Try.prog p.1 p.2 := vcons v16 (vcons v17 (vcons v20 (vcons v21 (vcons v10 L4_all))))
theorem L5_ok : ∀ f S, spL L5 f = some S → Valid Try.prog f S := spL_ok L5_all
/-! ### What is sent -/
abbrev shS : Sh := .pair (.int .i64) (.pair (.int .i64) (.pair (.int .i64) (.pair .bool (.pair .bool (.arr 8 .u64)))))
abbrev Sd : Type := Int × Int × Int × Bool × Bool × List Int
abbrev tellF (to kind line : Int) (d : List Int) : Sd := (to, kind, line, false, false, d)
def allF (mask kind line : Int) : List Sd := (coresF mask).map fun c => tellF c kind line Z8
def busyF (e : E) (k y w : Int) : E := { e with busy := k, by_ := y, wait := w }
def ownF (e : E) (c : Int) : E := { e with owner := c, share := 0, busy := 0, by_ := 0, wait := 0 }
def askF (e : E) (c : Int) (m : M) : E × List Sd × Int :=
  if (goodF e && (coreF c && (mgoodF m && asksF m.kind))) = false then (zeroE, [], 1)
  else if e.busy ≠ 0 then (zeroE, [], 15)
  else if e.here = false then (zeroE, [], 16)
  else if m.kind = 1 then
    if 0 ≤ e.owner ∧ e.owner ≠ c then (busyF e 1 c (bitF e.owner), [tellF e.owner 13 m.line Z8], 0)
    else if e.share = 0 then (ownF e c, [tellF c 9 m.line e.data], 0)
    else ({ e with share := orI e.share (bitF c) }, [tellF c 8 m.line e.data], 0)
  else if m.kind = 2 then
    if anI (orI (bitF e.owner) e.share) (bitF c) = 0 then (ownF e c, [tellF c 10 m.line e.data], 0)
    else (busyF e 2 c (anI (orI (bitF e.owner) e.share) (bitF c)), allF (anI (orI (bitF e.owner) e.share) (bitF c)) 12 m.line, 0)
  else if m.kind = 3 then
    if e.owner = c then (if m.dirty then { e with owner := -1, data := m.data, dirty := true } else { e with owner := -1 }, [tellF c 11 m.line Z8], 0)
    else ({ e with share := anI e.share (bitF c) }, [tellF c 11 m.line Z8], 0)
  else if m.kind = 4 then (busyF e 4 c (bitF e.owner), allF (bitF e.owner) 13 m.line, 0)
  else (busyF e 5 c (orI (bitF e.owner) e.share), allF (orI (bitF e.owner) e.share) 12 m.line, 0)
def S36 : List Vl → Option Rs
  | [.agg [.val (.bool a), .val (.bool b), .run .u64 8 d, .val (.int .i64 o), .val (.int .u8 s), .val (.int .i64 _), .val (.int .i64 _), .val (.int .u8 _)], .one (.val (.int .i64 k)), .one (.val (.int .i64 y)), .one (.val (.int .u8 w))] => some (.v (.agg (encE ⟨a, b, d, o, s, k, y, w⟩)))
  | _ => none
def S38 : List Vl → Option Rs
  | [.agg [.val (.bool a), .val (.bool b), .run .u64 8 d, .val (.int .i64 _), .val (.int .u8 _), .val (.int .i64 _), .val (.int .i64 _), .val (.int .u8 _)], .one (.val (.int .i64 c))] => some (.v (.agg (encE ⟨a, b, d, c, 0, 0, 0, 0⟩)))
  | _ => none
def S37 : List Vl → Option Rs
  | [.one (.val (.int .i64 t)), .one (.val (.int .i64 k)), .one (.val (.int .i64 l)), .agg [.run .u64 8 d]] => some (.v (.agg [vi t, vi k, vi l, vb false, vb false, .run .u64 8 d]))
  | _ => none
def S39 : List Vl → Option Rs
  | [.one (.val (.int .u8 m)), .one (.val (.int .i64 k)), .one (.val (.int .i64 l))] => some (.v (.one (.rd shS (allF m k l))))
  | _ => none
def onEIM (f : E → Int → M → Rs) : List Vl → Option Rs
  | [.agg [.val (.bool a), .val (.bool b), .run .u64 8 d, .val (.int .i64 o), .val (.int .u8 s), .val (.int .i64 k), .val (.int .i64 y), .val (.int .u8 w)], .one (.val (.int .i64 c)), .agg [.val (.int .i64 mk), .val (.int .i64 ml), .val (.bool ma), .val (.bool mb), .run .u64 8 md]] => some (f ⟨a, b, d, o, s, k, y, w⟩ c ⟨mk, ml, ma, mb, md⟩)
  | _ => none
def outR (x : E × List Sd × Int) : Rs := .tup [.agg (encE x.1), .one (.rd shS x.2.1), .one (vi x.2.2)]
theorem preEIM {sp : FuncId → Option Spec} {f : FuncId} {fn : Func} (hsp : ∀ f S, sp f = some S → Valid Try.prog f S) (hf : Try.prog.funcs[f]? = some fn) (hc : CallOk Try.prog f) {g : E → Int → M → E × List Sd × Int}
    (h : ∀ a b d o s k y w c mk ml ma mb md a1 b1 d1 o1 s1 k1 y1 w1 l1 z1, g ⟨a, b, d, o, s, k, y, w⟩ c ⟨mk, ml, ma, mb, md⟩ = (⟨a1, b1, d1, o1, s1, k1, y1, w1⟩, l1, z1) → rngL (encE ⟨a, b, d, o, s, k, y, w⟩) → inR .i64 c → rngL (encM ⟨mk, ml, ma, mb, md⟩) →
      ∃ lp, runF Tbl sp lp 0 fn [.agg (encE ⟨a, b, d, o, s, k, y, w⟩), .one (vi c), .agg (encM ⟨mk, ml, ma, mb, md⟩)] ⟨0, []⟩ fun r' st' => fzR st' (.tup [.agg [vb a1, vb b1, .run .u64 8 d1, vi o1, v8 s1, vi k1, vi y1, v8 w1], .one (.rd shS l1), .one (vi z1)]) r') : Valid Try.prog f (Q (onEIM fun e c m => outR (g e c m))) := by
  refine pre_of hsp hf hc fun args r hr hg => ?_
  unfold onEIM at hr
  split at hr
  · cases hr
    rename_i a b d o s k y w c mk ml ma mb md
    generalize hx : g ⟨a, b, d, o, s, k, y, w⟩ c ⟨mk, ml, ma, mb, md⟩ = x
    obtain ⟨⟨a1, b1, d1, o1, s1, k1, y1, w1⟩, l1, z1⟩ := x
    exact ⟨rfl, by simp only [hx]; exact h a b d o s k y w c mk ml ma mb md a1 b1 d1 o1 s1 k1 y1 w1 l1 z1 hx hg.1 hg.2.1 hg.2.2.1⟩
  · cases hr
set_option maxRecDepth 100000 in
theorem v36 : Valid Try.prog 36 (N S36) := by
  refine tot_of L5_ok Try.func36 call36 fun args r h hr => ?_
  unfold S36 at h
  split at h
  · cases h
    rename_i a b d o s x1 x2 x3 k y w
    refine ⟨rfl, rfl, noLoop, ?_⟩
    refine Eq.mp (by kernel_rfl : (a = a ∧ b = b ∧ d = d ∧ o = o ∧ s = s ∧ k = k ∧ y = y ∧ w = w ∧ True) = _) ?_
    repeat' (first | apply And.intro | rfl | trivial)
  · cases h
set_option maxRecDepth 100000 in
theorem v37 : Valid Try.prog 37 (N S37) := by
  refine tot_of L5_ok Try.func37 call37 fun args r h hr => ?_
  unfold S37 at h
  split at h
  · cases h
    rename_i t k l d
    refine ⟨rfl, rfl, noLoop, ?_⟩
    refine Eq.mp (by kernel_rfl : (t = t ∧ k = k ∧ l = l ∧ false = false ∧ false = false ∧ d = d ∧ True) = _) ?_
    repeat' (first | apply And.intro | rfl | trivial)
  · cases h
abbrev L6 : List (Nat × Spec) := (36, N S36) :: (37, N S37) :: L5
theorem L6_all : ∀ p ∈ L6, Valid Try.prog p.1 p.2 := vcons v36 (vcons v37 L5_all)
theorem L6_ok : ∀ f S, spL L6 f = some S → Valid Try.prog f S := spL_ok L6_all
set_option maxRecDepth 100000 in
theorem v38 : Valid Try.prog 38 (N S38) := by
  refine tot_of L6_ok Try.func38 call38 fun args r h hr => ?_
  unfold S38 at h
  split at h
  · cases h
    rename_i a b d x1 x2 x3 x4 x5 c
    refine ⟨rfl, rfl, noLoop, ?_⟩
    refine Eq.mp (by kernel_rfl : (a = a ∧ b = b ∧ d = d ∧ c = c ∧ (0 : Int) = (0 : Int) ∧ (0 : Int) = (0 : Int) ∧ (0 : Int) = (0 : Int) ∧ (0 : Int) = (0 : Int) ∧ True) = _) ?_
    repeat' (first | apply And.intro | rfl | trivial)
  · cases h
def lp39 (m k l : Int) : Nat → Option LoopSp := fun _ => some { X := Nat, sl := fun i => [(1, .one (vi k)), (2, .one (vi l)), (7, .one (.sl 0)), (8, .one (.rd (.int .i64) (coresF m))), (9, .one (vi i))], h := fun i => [(0, .own 69 shS ((allF m k l).take i))], nx := 1, inv := fun i => i ≤ (coresF m).length, mu := fun i => (coresF m).length - i }
theorem cores_len (m : Int) : (coresF m).length ≤ 8 := coresN_len m 8
set_option maxRecDepth 100000 in
theorem v39 : Valid Try.prog 39 (Q S39) := by
  refine pre_of L6_ok Try.func39 call39 fun args r h hr => ?_
  unfold S39 at h
  split at h
  · cases h
    rename_i m k l
    refine ⟨rfl, lp39 m k l, ?_⟩
    refine Eq.mp (by kernel_rfl : ((∃ (x : Nat), x ≤ (coresF m).length ∧ k = k ∧ l = l ∧ coresF m ≍ coresF m ∧ (0 : Int) = (↑x : Int) ∧ List.take x (allF m k l) = ([] : List shS.T) ∧ True) ∧ ∀ (x : Nat), x ≤ (coresF m).length → (decide ((↑x : Int) < (↑(coresF m).length : Int)) = true → ((0 : Int) ≤ (↑x : Int) ∧ (↑x : Int) < (↑(coresF m).length : Int)) ∧ ∀ (y : (Sh.int IntKind.i64).T), (coresF m)[(↑x : Int).toNat]? = some y → ((List.take x (allF m k l)).length + ((y, k, l, false, false, List.replicate (8 : Nat) (0 : Int)) :: ([] : List ((Sh.int IntKind.i64).pair ((Sh.int IntKind.i64).pair ((Sh.int IntKind.i64).pair (Sh.bool.pair (Sh.bool.pair (Sh.arr (8 : Nat) IntKind.u64)))))).T)).length) * (96 : Nat) ≤ (140737488355328 : Nat) ∧ ((-9223372036854775808 : Int) ≤ (↑x : Int) + (1 : Int) ∧ (↑x : Int) + (1 : Int) ≤ (9223372036854775807 : Int)) ∧ ∃ (y_1 : Nat), y_1 ≤ (coresF m).length ∧ (coresF m).length - y_1 < (coresF m).length - x ∧ k = k ∧ l = l ∧ coresF m ≍ coresF m ∧ (↑x : Int) + (1 : Int) = (↑y_1 : Int) ∧ List.take x (allF m k l) ++ (y, k, l, false, false, List.replicate (8 : Nat) (0 : Int)) :: ([] : List ((Sh.int IntKind.i64).pair ((Sh.int IntKind.i64).pair ((Sh.int IntKind.i64).pair (Sh.bool.pair (Sh.bool.pair (Sh.arr (8 : Nat) IntKind.u64)))))).T) ≍ List.take y_1 (allF m k l) ∧ True) ∧ (decide ((↑x : Int) < (↑(coresF m).length : Int)) = false → List.take x (allF m k l) ≍ allF m k l ∧ True)) = _) ?_
    have h8 := cores_len m
    simp only [heq_eq_eq, and_true, true_and, decide_eq_true_eq, decide_eq_false_iff_not, Int.toNat_natCast]
    refine ⟨⟨0, by omega, rfl, by simp⟩, fun x hx => ⟨fun hl => ⟨by omega, fun y hy => ⟨?_, by omega, x + 1, by omega, by omega, by omega, ?_⟩⟩, fun hl => ?_⟩⟩
    · simp; omega
    · unfold allF
      rw [List.take_add_one]
      simp only [List.getElem?_map]
      rw [show (coresF m)[x]? = some y from hy]
      rfl
    · have : x = (coresF m).length := by omega
      subst this
      exact List.take_of_length_le (by simp [allF])
  · cases h
abbrev L7 : List (Nat × Spec) := (38, N S38) :: (39, Q S39) :: L6
theorem L7_all : ∀ p ∈ L7, Valid Try.prog p.1 p.2 := vcons v38 (vcons v39 L6_all)
theorem L7_ok : ∀ f S, spL L7 f = some S → Valid Try.prog f S := spL_ok L7_all
set_option maxHeartbeats 2000000 in
set_option maxRecDepth 100000 in
theorem v14 : Valid Try.prog 14 (Q (onEIM fun e c m => outR (askF e c m))) := by
  refine preEIM L7_ok Try.func14 call14 fun a b d o s k y w c mk ml ma mb md a1 b1 d1 o1 s1 k1 y1 w1 l1 z1 hx h1 h2 h3 => ⟨noLoop, ?_⟩
  refine Eq.mp (by kernel_rfl : (((!goodF { here := a, dirty := b, data := d, owner := o, share := s, busy := k, by_ := y, wait := w } || !coreF c || !mgoodF { kind := mk, line := ml, dirty := ma, kept := mb, data := md } || !asksF mk) = true → false = a1 ∧ false = b1 ∧ List.replicate (8 : Nat) (0 : Int) = d1 ∧ (0 : Int) = o1 ∧ (0 : Int) = s1 ∧ (0 : Int) = k1 ∧ (0 : Int) = y1 ∧ (0 : Int) = w1 ∧ l1 = ([] : List shS.T) ∧ (1 : Int) = z1 ∧ True) ∧ ((!goodF { here := a, dirty := b, data := d, owner := o, share := s, busy := k, by_ := y, wait := w } || !coreF c || !mgoodF { kind := mk, line := ml, dirty := ma, kept := mb, data := md } || !asksF mk) = false → ((k != (0 : Int)) = true → false = a1 ∧ false = b1 ∧ List.replicate (8 : Nat) (0 : Int) = d1 ∧ (0 : Int) = o1 ∧ (0 : Int) = s1 ∧ (0 : Int) = k1 ∧ (0 : Int) = y1 ∧ (0 : Int) = w1 ∧ l1 = ([] : List shS.T) ∧ (15 : Int) = z1 ∧ True) ∧ ((k != (0 : Int)) = false → ((!a) = true → false = a1 ∧ false = b1 ∧ List.replicate (8 : Nat) (0 : Int) = d1 ∧ (0 : Int) = o1 ∧ (0 : Int) = s1 ∧ (0 : Int) = k1 ∧ (0 : Int) = y1 ∧ (0 : Int) = w1 ∧ l1 = ([] : List shS.T) ∧ (16 : Int) = z1 ∧ True) ∧ ((!a) = false → ((mk == (1 : Int)) = true → ((decide (o ≥ (0 : Int)) && o != c) = true → (a = a1 ∧ b = b1 ∧ d = d1 ∧ o = o1 ∧ s = s1 ∧ (1 : Int) = k1 ∧ c = y1 ∧ bitF o = w1 ∧ (o, (13 : Int), ml, false, false, List.replicate (8 : Nat) (0 : Int)) :: ([] : List ((Sh.int IntKind.i64).pair ((Sh.int IntKind.i64).pair ((Sh.int IntKind.i64).pair (Sh.bool.pair (Sh.bool.pair (Sh.arr (8 : Nat) IntKind.u64)))))).T) ≍ l1 ∧ (0 : Int) = z1 ∧ True) ∧ a = a1 ∧ b = b1 ∧ d = d1 ∧ o = o1 ∧ s = s1 ∧ (1 : Int) = k1 ∧ c = y1 ∧ bitF o = w1 ∧ (o, (13 : Int), ml, false, false, List.replicate (8 : Nat) (0 : Int)) :: ([] : List ((Sh.int IntKind.i64).pair ((Sh.int IntKind.i64).pair ((Sh.int IntKind.i64).pair (Sh.bool.pair (Sh.bool.pair (Sh.arr (8 : Nat) IntKind.u64)))))).T) ≍ l1 ∧ (0 : Int) = z1 ∧ True) ∧ ((decide (o ≥ (0 : Int)) && o != c) = false → ((s == (0 : Int)) = true → (a = a1 ∧ b = b1 ∧ d = d1 ∧ c = o1 ∧ (0 : Int) = s1 ∧ (0 : Int) = k1 ∧ (0 : Int) = y1 ∧ (0 : Int) = w1 ∧ (c, (9 : Int), ml, false, false, d) :: ([] : List ((Sh.int IntKind.i64).pair ((Sh.int IntKind.i64).pair ((Sh.int IntKind.i64).pair (Sh.bool.pair (Sh.bool.pair (Sh.arr (8 : Nat) IntKind.u64)))))).T) ≍ l1 ∧ (0 : Int) = z1 ∧ True) ∧ a = a1 ∧ b = b1 ∧ d = d1 ∧ c = o1 ∧ (0 : Int) = s1 ∧ (0 : Int) = k1 ∧ (0 : Int) = y1 ∧ (0 : Int) = w1 ∧ (c, (9 : Int), ml, false, false, d) :: ([] : List ((Sh.int IntKind.i64).pair ((Sh.int IntKind.i64).pair ((Sh.int IntKind.i64).pair (Sh.bool.pair (Sh.bool.pair (Sh.arr (8 : Nat) IntKind.u64)))))).T) ≍ l1 ∧ (0 : Int) = z1 ∧ True) ∧ ((s == (0 : Int)) = false → (a = a1 ∧ b = b1 ∧ d = d1 ∧ o = o1 ∧ bits BinOp.or IntKind.u8 s (bitF c) = s1 ∧ k = k1 ∧ y = y1 ∧ w = w1 ∧ (c, (8 : Int), ml, false, false, d) :: ([] : List ((Sh.int IntKind.i64).pair ((Sh.int IntKind.i64).pair ((Sh.int IntKind.i64).pair (Sh.bool.pair (Sh.bool.pair (Sh.arr (8 : Nat) IntKind.u64)))))).T) ≍ l1 ∧ (0 : Int) = z1 ∧ True) ∧ a = a1 ∧ b = b1 ∧ d = d1 ∧ o = o1 ∧ bits BinOp.or IntKind.u8 s (bitF c) = s1 ∧ k = k1 ∧ y = y1 ∧ w = w1 ∧ (c, (8 : Int), ml, false, false, d) :: ([] : List ((Sh.int IntKind.i64).pair ((Sh.int IntKind.i64).pair ((Sh.int IntKind.i64).pair (Sh.bool.pair (Sh.bool.pair (Sh.arr (8 : Nat) IntKind.u64)))))).T) ≍ l1 ∧ (0 : Int) = z1 ∧ True))) ∧ ((mk == (1 : Int)) = false → ((mk == (2 : Int)) = true → ((bits BinOp.andNot IntKind.u8 (bits BinOp.or IntKind.u8 (bitF o) s) (bitF c) == (0 : Int)) = true → (a = a1 ∧ b = b1 ∧ d = d1 ∧ c = o1 ∧ (0 : Int) = s1 ∧ (0 : Int) = k1 ∧ (0 : Int) = y1 ∧ (0 : Int) = w1 ∧ (c, (10 : Int), ml, false, false, d) :: ([] : List ((Sh.int IntKind.i64).pair ((Sh.int IntKind.i64).pair ((Sh.int IntKind.i64).pair (Sh.bool.pair (Sh.bool.pair (Sh.arr (8 : Nat) IntKind.u64)))))).T) ≍ l1 ∧ (0 : Int) = z1 ∧ True) ∧ a = a1 ∧ b = b1 ∧ d = d1 ∧ c = o1 ∧ (0 : Int) = s1 ∧ (0 : Int) = k1 ∧ (0 : Int) = y1 ∧ (0 : Int) = w1 ∧ (c, (10 : Int), ml, false, false, d) :: ([] : List ((Sh.int IntKind.i64).pair ((Sh.int IntKind.i64).pair ((Sh.int IntKind.i64).pair (Sh.bool.pair (Sh.bool.pair (Sh.arr (8 : Nat) IntKind.u64)))))).T) ≍ l1 ∧ (0 : Int) = z1 ∧ True) ∧ ((bits BinOp.andNot IntKind.u8 (bits BinOp.or IntKind.u8 (bitF o) s) (bitF c) == (0 : Int)) = false → a = a1 ∧ b = b1 ∧ d = d1 ∧ o = o1 ∧ s = s1 ∧ (2 : Int) = k1 ∧ c = y1 ∧ bits BinOp.andNot IntKind.u8 (bits BinOp.or IntKind.u8 (bitF o) s) (bitF c) = w1 ∧ allF (bits BinOp.andNot IntKind.u8 (bits BinOp.or IntKind.u8 (bitF o) s) (bitF c)) (12 : Int) ml ≍ l1 ∧ (0 : Int) = z1 ∧ True)) ∧ ((mk == (2 : Int)) = false → ((mk == (3 : Int)) = true → ((o == c) = true → (ma = true → (a = a1 ∧ true = b1 ∧ md = d1 ∧ (-1 : Int) = o1 ∧ s = s1 ∧ k = k1 ∧ y = y1 ∧ w = w1 ∧ (c, (11 : Int), ml, false, false, List.replicate (8 : Nat) (0 : Int)) :: ([] : List ((Sh.int IntKind.i64).pair ((Sh.int IntKind.i64).pair ((Sh.int IntKind.i64).pair (Sh.bool.pair (Sh.bool.pair (Sh.arr (8 : Nat) IntKind.u64)))))).T) ≍ l1 ∧ (0 : Int) = z1 ∧ True) ∧ a = a1 ∧ true = b1 ∧ md = d1 ∧ (-1 : Int) = o1 ∧ s = s1 ∧ k = k1 ∧ y = y1 ∧ w = w1 ∧ (c, (11 : Int), ml, false, false, List.replicate (8 : Nat) (0 : Int)) :: ([] : List ((Sh.int IntKind.i64).pair ((Sh.int IntKind.i64).pair ((Sh.int IntKind.i64).pair (Sh.bool.pair (Sh.bool.pair (Sh.arr (8 : Nat) IntKind.u64)))))).T) ≍ l1 ∧ (0 : Int) = z1 ∧ True) ∧ (ma = false → (a = a1 ∧ b = b1 ∧ d = d1 ∧ (-1 : Int) = o1 ∧ s = s1 ∧ k = k1 ∧ y = y1 ∧ w = w1 ∧ (c, (11 : Int), ml, false, false, List.replicate (8 : Nat) (0 : Int)) :: ([] : List ((Sh.int IntKind.i64).pair ((Sh.int IntKind.i64).pair ((Sh.int IntKind.i64).pair (Sh.bool.pair (Sh.bool.pair (Sh.arr (8 : Nat) IntKind.u64)))))).T) ≍ l1 ∧ (0 : Int) = z1 ∧ True) ∧ a = a1 ∧ b = b1 ∧ d = d1 ∧ (-1 : Int) = o1 ∧ s = s1 ∧ k = k1 ∧ y = y1 ∧ w = w1 ∧ (c, (11 : Int), ml, false, false, List.replicate (8 : Nat) (0 : Int)) :: ([] : List ((Sh.int IntKind.i64).pair ((Sh.int IntKind.i64).pair ((Sh.int IntKind.i64).pair (Sh.bool.pair (Sh.bool.pair (Sh.arr (8 : Nat) IntKind.u64)))))).T) ≍ l1 ∧ (0 : Int) = z1 ∧ True)) ∧ ((o == c) = false → (a = a1 ∧ b = b1 ∧ d = d1 ∧ o = o1 ∧ bits BinOp.andNot IntKind.u8 s (bitF c) = s1 ∧ k = k1 ∧ y = y1 ∧ w = w1 ∧ (c, (11 : Int), ml, false, false, List.replicate (8 : Nat) (0 : Int)) :: ([] : List ((Sh.int IntKind.i64).pair ((Sh.int IntKind.i64).pair ((Sh.int IntKind.i64).pair (Sh.bool.pair (Sh.bool.pair (Sh.arr (8 : Nat) IntKind.u64)))))).T) ≍ l1 ∧ (0 : Int) = z1 ∧ True) ∧ a = a1 ∧ b = b1 ∧ d = d1 ∧ o = o1 ∧ bits BinOp.andNot IntKind.u8 s (bitF c) = s1 ∧ k = k1 ∧ y = y1 ∧ w = w1 ∧ (c, (11 : Int), ml, false, false, List.replicate (8 : Nat) (0 : Int)) :: ([] : List ((Sh.int IntKind.i64).pair ((Sh.int IntKind.i64).pair ((Sh.int IntKind.i64).pair (Sh.bool.pair (Sh.bool.pair (Sh.arr (8 : Nat) IntKind.u64)))))).T) ≍ l1 ∧ (0 : Int) = z1 ∧ True)) ∧ ((mk == (3 : Int)) = false → ((mk == (4 : Int)) = true → a = a1 ∧ b = b1 ∧ d = d1 ∧ o = o1 ∧ s = s1 ∧ (4 : Int) = k1 ∧ c = y1 ∧ bitF o = w1 ∧ allF (bitF o) (13 : Int) ml ≍ l1 ∧ (0 : Int) = z1 ∧ True) ∧ ((mk == (4 : Int)) = false → a = a1 ∧ b = b1 ∧ d = d1 ∧ o = o1 ∧ s = s1 ∧ (5 : Int) = k1 ∧ c = y1 ∧ bits BinOp.or IntKind.u8 (bitF o) s = w1 ∧ allF (bits BinOp.or IntKind.u8 (bitF o) s) (12 : Int) ml ≍ l1 ∧ (0 : Int) = z1 ∧ True)))))))) = _) ?_
  clear h1 h3
  repeat' (first | (intro _) | (apply And.intro <;> intro _))
  all_goals first | grind [askF, busyF, ownF, anI, orI, asksF] | ((try simp only [heq_eq_eq]); repeat' apply And.intro) <;> grind [askF, busyF, ownF, anI, orI, asksF]
end Go.Proofs.Ytdbdoohjhecfiaa.V
