import Derived.KernelRfl
import Derived.Test.YtigbhlkafmpgmaaSb
namespace Go.Proofs.Ytigbhlkafmpgmaa.V
open Go.RowKit Go.Proofs.Ytigbhlkafmpgmaa
set_option linter.unusedSimpArgs false
abbrev tb20 : Nat × Spec := (20, .pre (rS [pUs] [pUs] (fun l => List.length l ≤ 1000000) (fun l y => y = l)))
noncomputable abbrev L2 : List (Nat × Spec) := tb20 :: (12, .tot (tS [pUs, pUs] [pB] fun x => eqB x.1 x.2)) :: (21, .tot (tS [pT] [pB] fun x => goodT (x.1.map toOp))) :: (14, .tot (tS [pTs] [pB] fun l => (List.all l fun t : TN => decide (t.1.length ≤ 30)) && decide (List.length l ≤ 12))) :: (10, .pre (rS [pTs] [pTs] (fun l => List.length l ≤ 1000 ∧ ∀ t ∈ l, List.length t.1 ≤ 1000) (fun l y => y = l))) :: L1
theorem L2_all : ∀ p ∈ L2, Valid Try.prog p.1 p.2 := vcons v20 (vcons v12 (vcons v21 (vcons v14 (vcons v10 L1_all))))
theorem L2_ok : ∀ f S, spL L2 f = some S → Valid Try.prog f S := spL_ok L2_all
noncomputable abbrev L3 : List (Nat × Spec) := inl1 22 Try.f22 L2 :: inl1 15 Try.f15 L2 :: L2
theorem L3_all : ∀ p ∈ L3, Valid Try.prog p.1 p.2 := vcons (valid_inl mixed Tbl_ok L2_ok Try.func22 call22 noLp) (vcons (valid_inl mixed Tbl_ok L2_ok Try.func15 call15 noLp) L2_all)
theorem L3_ok : ∀ f S, spL L3 f = some S → Valid Try.prog f S := spL_ok L3_all
abbrev pR : PS := (true, .pair (.sl shU) (.pair (.sl shU) (.int .i64)))
structure I11 (m : List Int) (room : Int) (ops : List ON) (i : Nat) (cur : List Int) (n : Nat) (tells : List Int) : Prop where
  le : i ≤ ops.length
  eq : runS room m.length ((ops.drop i).map toOp) cur n tells = runS room m.length (ops.map toOp) m 0 []
  cl : cur.length = m.length
  tl : tells.length ≤ i
  nl : n ≤ i
abbrev X11 := Nat × List Int × Nat × List Int
abbrev lp11 (m : List Int) (room : Int) (ops : List ON) (ab : Bool) : Nat → Option LoopSp := fun _ => some { X := X11, sl := fun x => [(0, .one (.rd shU m)), (1, .one (vi room)), (5, .one (.ptr 0 0)), (6, .one (.ptr 1 0)), (7, .one (.ptr 2 0)), (8, .one (vi x.2.2.1)), (9, .one (vi x.1))], h := fun x => [(0, .blk [.rd shO ops, .val (.bool ab)] 25), (1, .blk [.val (.slice none 0 0), .val (.slice none 0 0), vi 0] 33), (2, .blk [.sl 3, .sl 4, vi 0] 33), (3, .own 37 shU x.2.1), (4, .own 37 shU x.2.2.2)], nx := 5, inv := fun x => I11 m room ops x.1 x.2.1 x.2.2.1 x.2.2.2, mu := fun x => ops.length - x.1 }
theorem drop_op {ops : List ON} {i : Nat} {o : ON} (h : ops[i]? = some o) : (ops.drop i).map toOp = toOp o :: (ops.drop (i + 1)).map toOp := by
  obtain ⟨hi, rfl⟩ := List.getElem?_eq_some_iff.1 h
  rw [List.drop_eq_getElem_cons hi, List.map_cons]
theorem I11.step {m : List Int} {room : Int} {ops : List ON} {i n : Nat} {cur tells : List Int} (hI : I11 m room ops i cur n tells) {o : ON} (ho : ops[i]? = some o) (hw : ¬ (o.2.1 < 0 ∨ (m.length : Int) ≤ o.2.1)) {c t : List Int} {n' : Nat} (hs : stepS room cur n tells (toOp o) = (true, c, n', t)) (hc : c.length = m.length) (ht : t.length ≤ i + 1) (hn : n' ≤ i + 1) : I11 m room ops (i + 1) c n' t := by
  have hi := (List.getElem?_eq_some_iff.1 ho).1
  refine ⟨by omega, ?_, hc, ht, hn⟩
  rw [← hI.eq, drop_op ho, runS_step room m.length (toOp o) _ cur n tells hw (by rw [hs]), hs]
theorem leaf11 {m : List Int} {room : Int} {ops : List ON} {ab : Bool} {i n : Nat} {cur tells : List Int} (hI : I11 m room ops i cur n tells) (hl : ops.length ≤ 16) {o : ON} (ho : ops[i]? = some o) (hw : ¬ (o.2.1 < 0 ∨ (m.length : Int) ≤ o.2.1)) {c t : List Int} {n' : Nat} {ne : Int} (hne : ne = n') (hs : stepS room cur n tells (toOp o) = (true, c, n', t)) (hc : c.length = m.length) (ht : t.length ≤ i + 1) (hn : n' ≤ i + 1) :
    (-9223372036854775808 ≤ (i : Int) + 1 ∧ (i : Int) + 1 ≤ 9223372036854775807) ∧ ∃ y : X11, I11 m room ops y.1 y.2.1 y.2.2.1 y.2.2.2 ∧ ops.length - y.1 < ops.length - i ∧ HEq m m ∧ room = room ∧ ne = y.2.2.1 ∧ (i : Int) + 1 = y.1 ∧ HEq ops ops ∧ ab = ab ∧ Value.slice (none : Option Addr) 0 0 = Value.slice (none : Option Addr) 0 0 ∧ Value.slice (none : Option Addr) 0 0 = Value.slice (none : Option Addr) 0 0 ∧ (0 : Int) = 0 ∧ (0 : Int) = 0 ∧ HEq c y.2.1 ∧ HEq t y.2.2.2 ∧ True := by
  have hi := (List.getElem?_eq_some_iff.1 ho).1
  exact ⟨by omega, (i + 1, c, n', t), hI.step ho hw hs hc ht hn, by simp only; omega, HEq.rfl, rfl, hne, by simp, HEq.rfl, rfl, rfl, rfl, rfl, rfl, HEq.rfl, HEq.rfl, trivial⟩
theorem out11 {m : List Int} {room : Int} {ops : List ON} {ab : Bool} {a b c : List Int} (h : allT m room (ops, ab) = (a, b, 0)) (hc : c = a) : ∃ y, y = allT m room (ops, ab) ∧ HEq c y.1 ∧ HEq b y.2.1 ∧ (0 : Int) = y.2.2 ∧ True := by
  rw [h]
  exact ⟨_, rfl, heq_of_eq hc, HEq.rfl, rfl, trivial⟩
theorem allT_run {m : List Int} {room : Int} {ops : List ON} {ab : Bool} (hg : goodT (ops.map toOp) = true) (hr : ¬ (room < 0 ∨ 1000 < room ∨ 1000 < (m.length : Int))) {k : Int} {c t : List Int} (h : runS room m.length (ops.map toOp) m 0 [] = (k, c, t)) : allT m room (ops, ab) = (if endC k ab = 101 then c else m, t ++ [endC k ab], 0) := by
  unfold allT allS
  rw [if_pos hg, if_neg hr]
  simp only [ranS, outS, h]
theorem stepS_to (room : Int) (cur : List Int) (n : Nat) (tells : List Int) (k q v : Int) : stepS room cur n tells (toOp (k, q, v)) = if k = 1 then (true, cur, n, tells ++ [cur.getD q.toNat 0]) else if k = 4 ∧ ¬ cur.getD q.toNat 0 = 0 then (true, cur, n, tells ++ [0]) else if room ≤ n then (false, cur, n, tells) else if k = 2 then (true, cur.set q.toNat v, n + 1, tells) else if k = 3 then (true, cur.set q.toNat (IntKind.u64.wrap (v + cur.getD q.toNat 0)), n + 1, tells ++ [IntKind.u64.wrap (v + cur.getD q.toNat 0)]) else (true, cur.set q.toNat v, n + 1, tells ++ [1]) := rfl
theorem runS_out {room : Int} {len : Nat} {cur : List Int} {n : Nat} {tells : List Int} {k q v : Int} {r : List Op} (h : q < 0 ∨ (len : Int) ≤ q) : runS room len (toOp (k, q, v) :: r) cur n tells = (103, cur, tells) := by
  rw [runS]
  exact if_pos h
theorem v11 : Valid Try.prog 11 (.pre (rS [pUs, pI, pT] [pR] (fun x => List.length x.1 ≤ 1000000) (fun x y => y = allT x.1 x.2.1 x.2.2))) := by
  refine rS_ok mixed Tbl_ok L3_ok Try.func11 call11 rfl ?_
  rintro ⟨(m : List Int), (room : Int), (ops : List ON), (ab : Bool)⟩ hr hp
  refine ⟨lp11 m room ops ab, ?_⟩
  refine Eq.mp (by kernel_rfl : (((!goodT (List.map toOp ops)) = true → ∃ (y : Tup (pR :: ([] : List PS))), y = allT m room (ops, ab) ∧ y.fst = ([] : List Int) ∧ y.snd.fst = ([] : List Int) ∧ (11 : Int) = y.snd.snd ∧ True) ∧ ((!goodT (List.map toOp ops)) = false → ((decide (room < (0 : Int)) || decide (room > (1000 : Int)) || decide ((↑m.length : Int) > (1000 : Int))) = true → ∃ (y : Tup (pR :: ([] : List PS))), y = allT m room (ops, ab) ∧ y.fst = ([] : List Int) ∧ y.snd.fst = ([] : List Int) ∧ (1 : Int) = y.snd.snd ∧ True) ∧ ((decide (room < (0 : Int)) || decide (room > (1000 : Int)) || decide ((↑m.length : Int) > (1000 : Int))) = false → (([] : List Int).length + m.length) * (8 : Nat) ≤ (140737488355328 : Nat) ∧ (∃ (x : X11), I11 m room ops x.fst x.snd.fst x.snd.snd.fst x.snd.snd.snd ∧ m ≍ m ∧ room = room ∧ (0 : Int) = (↑x.snd.snd.fst : Int) ∧ (0 : Int) = (↑x.fst : Int) ∧ ops ≍ ops ∧ ab = ab ∧ Value.slice (none : Option Addr) (0 : Nat) (0 : Nat) = Value.slice (none : Option Addr) (0 : Nat) (0 : Nat) ∧ Value.slice (none : Option Addr) (0 : Nat) (0 : Nat) = Value.slice (none : Option Addr) (0 : Nat) (0 : Nat) ∧ (0 : Int) = (0 : Int) ∧ (0 : Int) = (0 : Int) ∧ ([] : List Int) ++ m ≍ x.snd.fst ∧ x.snd.snd.snd = ([] : List Int) ∧ True) ∧ ∀ (x : X11), I11 m room ops x.fst x.snd.fst x.snd.snd.fst x.snd.snd.snd → (decide ((↑x.fst : Int) < (↑ops.length : Int)) = true → ((0 : Int) ≤ (↑x.fst : Int) ∧ (↑x.fst : Int) < (↑ops.length : Int)) ∧ ∀ (y : Int × Int × Int), ops[(↑x.fst : Int).toNat]? = some y → ((decide (y.snd.fst < (0 : Int)) || decide (y.snd.fst ≥ (↑m.length : Int))) = true → (x.snd.snd.snd.length + ((103 : Int) :: ([] : List Int)).length) * (8 : Nat) ≤ (140737488355328 : Nat) ∧ (([] : List Int).length + m.length) * (8 : Nat) ≤ (140737488355328 : Nat) ∧ ∃ (y : Tup (pR :: ([] : List PS))), y = allT m room (ops, ab) ∧ ([] : List Int) ++ m ≍ y.fst ∧ x.snd.snd.snd ++ (103 : Int) :: ([] : List Int) ≍ y.snd.fst ∧ (0 : Int) = y.snd.snd ∧ True) ∧ ((decide (y.snd.fst < (0 : Int)) || decide (y.snd.fst ≥ (↑m.length : Int))) = false → ((y.fst == (1 : Int)) = true → ((0 : Int) ≤ y.snd.fst ∧ y.snd.fst < (↑x.snd.fst.length : Int)) ∧ y.snd.fst.toNat < x.snd.fst.length ∧ ∀ (y_1 : Int), x.snd.fst[y.snd.fst.toNat]? = some y_1 → (x.snd.snd.snd.length + (y_1 :: ([] : List Int)).length) * (8 : Nat) ≤ (140737488355328 : Nat) ∧ ((-9223372036854775808 : Int) ≤ (↑x.fst : Int) + (1 : Int) ∧ (↑x.fst : Int) + (1 : Int) ≤ (9223372036854775807 : Int)) ∧ ∃ (y : X11), I11 m room ops y.fst y.snd.fst y.snd.snd.fst y.snd.snd.snd ∧ ops.length - y.fst < ops.length - x.fst ∧ m ≍ m ∧ room = room ∧ (↑x.snd.snd.fst : Int) = (↑y.snd.snd.fst : Int) ∧ (↑x.fst : Int) + (1 : Int) = (↑y.fst : Int) ∧ ops ≍ ops ∧ ab = ab ∧ Value.slice (none : Option Addr) (0 : Nat) (0 : Nat) = Value.slice (none : Option Addr) (0 : Nat) (0 : Nat) ∧ Value.slice (none : Option Addr) (0 : Nat) (0 : Nat) = Value.slice (none : Option Addr) (0 : Nat) (0 : Nat) ∧ (0 : Int) = (0 : Int) ∧ (0 : Int) = (0 : Int) ∧ x.snd.fst ≍ y.snd.fst ∧ x.snd.snd.snd ++ y_1 :: ([] : List Int) ≍ y.snd.snd.snd ∧ True) ∧ ((y.fst == (1 : Int)) = false → ((y.fst == (4 : Int)) = true → ((0 : Int) ≤ y.snd.fst ∧ y.snd.fst < (↑x.snd.fst.length : Int)) ∧ y.snd.fst.toNat < x.snd.fst.length ∧ ∀ (y_1 : Int), x.snd.fst[y.snd.fst.toNat]? = some y_1 → ((y_1 != (0 : Int)) = true → (x.snd.snd.snd.length + ((0 : Int) :: ([] : List Int)).length) * (8 : Nat) ≤ (140737488355328 : Nat) ∧ ((-9223372036854775808 : Int) ≤ (↑x.fst : Int) + (1 : Int) ∧ (↑x.fst : Int) + (1 : Int) ≤ (9223372036854775807 : Int)) ∧ ∃ (y : X11), I11 m room ops y.fst y.snd.fst y.snd.snd.fst y.snd.snd.snd ∧ ops.length - y.fst < ops.length - x.fst ∧ m ≍ m ∧ room = room ∧ (↑x.snd.snd.fst : Int) = (↑y.snd.snd.fst : Int) ∧ (↑x.fst : Int) + (1 : Int) = (↑y.fst : Int) ∧ ops ≍ ops ∧ ab = ab ∧ Value.slice (none : Option Addr) (0 : Nat) (0 : Nat) = Value.slice (none : Option Addr) (0 : Nat) (0 : Nat) ∧ Value.slice (none : Option Addr) (0 : Nat) (0 : Nat) = Value.slice (none : Option Addr) (0 : Nat) (0 : Nat) ∧ (0 : Int) = (0 : Int) ∧ (0 : Int) = (0 : Int) ∧ x.snd.fst ≍ y.snd.fst ∧ x.snd.snd.snd ++ (0 : Int) :: ([] : List Int) ≍ y.snd.snd.snd ∧ True) ∧ ((y_1 != (0 : Int)) = false → (decide ((↑x.snd.snd.fst : Int) ≥ room) = true → (x.snd.snd.snd.length + ((102 : Int) :: ([] : List Int)).length) * (8 : Nat) ≤ (140737488355328 : Nat) ∧ (([] : List Int).length + m.length) * (8 : Nat) ≤ (140737488355328 : Nat) ∧ ∃ (y : Tup (pR :: ([] : List PS))), y = allT m room (ops, ab) ∧ ([] : List Int) ++ m ≍ y.fst ∧ x.snd.snd.snd ++ (102 : Int) :: ([] : List Int) ≍ y.snd.fst ∧ (0 : Int) = y.snd.snd ∧ True) ∧ (decide ((↑x.snd.snd.fst : Int) ≥ room) = false → ((-9223372036854775808 : Int) ≤ (↑x.snd.snd.fst : Int) + (1 : Int) ∧ (↑x.snd.snd.fst : Int) + (1 : Int) ≤ (9223372036854775807 : Int)) ∧ ((y.fst == (2 : Int)) = true → ((0 : Int) ≤ y.snd.fst ∧ y.snd.fst < (↑x.snd.fst.length : Int)) ∧ y.snd.fst.toNat < x.snd.fst.length ∧ ∀ (z : Int), x.snd.fst[y.snd.fst.toNat]? = some z → ((-9223372036854775808 : Int) ≤ (↑x.fst : Int) + (1 : Int) ∧ (↑x.fst : Int) + (1 : Int) ≤ (9223372036854775807 : Int)) ∧ ∃ (y_2 : X11), I11 m room ops y_2.fst y_2.snd.fst y_2.snd.snd.fst y_2.snd.snd.snd ∧ ops.length - y_2.fst < ops.length - x.fst ∧ m ≍ m ∧ room = room ∧ (↑x.snd.snd.fst : Int) + (1 : Int) = (↑y_2.snd.snd.fst : Int) ∧ (↑x.fst : Int) + (1 : Int) = (↑y_2.fst : Int) ∧ ops ≍ ops ∧ ab = ab ∧ Value.slice (none : Option Addr) (0 : Nat) (0 : Nat) = Value.slice (none : Option Addr) (0 : Nat) (0 : Nat) ∧ Value.slice (none : Option Addr) (0 : Nat) (0 : Nat) = Value.slice (none : Option Addr) (0 : Nat) (0 : Nat) ∧ (0 : Int) = (0 : Int) ∧ (0 : Int) = (0 : Int) ∧ x.snd.fst.set y.snd.fst.toNat y.snd.snd ≍ y_2.snd.fst ∧ x.snd.snd.snd ≍ y_2.snd.snd.snd ∧ True) ∧ ((y.fst == (2 : Int)) = false → ((y.fst == (3 : Int)) = true → ((0 : Int) ≤ y.snd.fst ∧ y.snd.fst < (↑x.snd.fst.length : Int)) ∧ y.snd.fst.toNat < x.snd.fst.length ∧ ∀ (y_2 : Int), x.snd.fst[y.snd.fst.toNat]? = some y_2 → ((0 : Int) ≤ y.snd.fst ∧ y.snd.fst < (↑x.snd.fst.length : Int)) ∧ y.snd.fst.toNat < x.snd.fst.length ∧ ∀ (z : Int), x.snd.fst[y.snd.fst.toNat]? = some z → ((0 : Int) ≤ y.snd.fst ∧ y.snd.fst < (↑(x.snd.fst.set y.snd.fst.toNat (IntKind.u64.wrap (y_2 + y.snd.snd))).length : Int)) ∧ y.snd.fst.toNat < (x.snd.fst.set y.snd.fst.toNat (IntKind.u64.wrap (y_2 + y.snd.snd))).length ∧ ∀ (y_3 : Int), (x.snd.fst.set y.snd.fst.toNat (IntKind.u64.wrap (y_2 + y.snd.snd)))[y.snd.fst.toNat]? = some y_3 → (x.snd.snd.snd.length + (y_3 :: ([] : List Int)).length) * (8 : Nat) ≤ (140737488355328 : Nat) ∧ ((-9223372036854775808 : Int) ≤ (↑x.fst : Int) + (1 : Int) ∧ (↑x.fst : Int) + (1 : Int) ≤ (9223372036854775807 : Int)) ∧ ∃ (y_4 : X11), I11 m room ops y_4.fst y_4.snd.fst y_4.snd.snd.fst y_4.snd.snd.snd ∧ ops.length - y_4.fst < ops.length - x.fst ∧ m ≍ m ∧ room = room ∧ (↑x.snd.snd.fst : Int) + (1 : Int) = (↑y_4.snd.snd.fst : Int) ∧ (↑x.fst : Int) + (1 : Int) = (↑y_4.fst : Int) ∧ ops ≍ ops ∧ ab = ab ∧ Value.slice (none : Option Addr) (0 : Nat) (0 : Nat) = Value.slice (none : Option Addr) (0 : Nat) (0 : Nat) ∧ Value.slice (none : Option Addr) (0 : Nat) (0 : Nat) = Value.slice (none : Option Addr) (0 : Nat) (0 : Nat) ∧ (0 : Int) = (0 : Int) ∧ (0 : Int) = (0 : Int) ∧ x.snd.fst.set y.snd.fst.toNat (IntKind.u64.wrap (y_2 + y.snd.snd)) ≍ y_4.snd.fst ∧ x.snd.snd.snd ++ y_3 :: ([] : List Int) ≍ y_4.snd.snd.snd ∧ True) ∧ ((y.fst == (3 : Int)) = false → ((y.fst == (4 : Int)) = true → ((0 : Int) ≤ y.snd.fst ∧ y.snd.fst < (↑x.snd.fst.length : Int)) ∧ y.snd.fst.toNat < x.snd.fst.length ∧ ∀ (z : Int), x.snd.fst[y.snd.fst.toNat]? = some z → (x.snd.snd.snd.length + ((1 : Int) :: ([] : List Int)).length) * (8 : Nat) ≤ (140737488355328 : Nat) ∧ ((-9223372036854775808 : Int) ≤ (↑x.fst : Int) + (1 : Int) ∧ (↑x.fst : Int) + (1 : Int) ≤ (9223372036854775807 : Int)) ∧ ∃ (y_2 : X11), I11 m room ops y_2.fst y_2.snd.fst y_2.snd.snd.fst y_2.snd.snd.snd ∧ ops.length - y_2.fst < ops.length - x.fst ∧ m ≍ m ∧ room = room ∧ (↑x.snd.snd.fst : Int) + (1 : Int) = (↑y_2.snd.snd.fst : Int) ∧ (↑x.fst : Int) + (1 : Int) = (↑y_2.fst : Int) ∧ ops ≍ ops ∧ ab = ab ∧ Value.slice (none : Option Addr) (0 : Nat) (0 : Nat) = Value.slice (none : Option Addr) (0 : Nat) (0 : Nat) ∧ Value.slice (none : Option Addr) (0 : Nat) (0 : Nat) = Value.slice (none : Option Addr) (0 : Nat) (0 : Nat) ∧ (0 : Int) = (0 : Int) ∧ (0 : Int) = (0 : Int) ∧ x.snd.fst.set y.snd.fst.toNat y.snd.snd ≍ y_2.snd.fst ∧ x.snd.snd.snd ++ (1 : Int) :: ([] : List Int) ≍ y_2.snd.snd.snd ∧ True) ∧ ((y.fst == (4 : Int)) = false → ((-9223372036854775808 : Int) ≤ (↑x.fst : Int) + (1 : Int) ∧ (↑x.fst : Int) + (1 : Int) ≤ (9223372036854775807 : Int)) ∧ ∃ (y : X11), I11 m room ops y.fst y.snd.fst y.snd.snd.fst y.snd.snd.snd ∧ ops.length - y.fst < ops.length - x.fst ∧ m ≍ m ∧ room = room ∧ (↑x.snd.snd.fst : Int) + (1 : Int) = (↑y.snd.snd.fst : Int) ∧ (↑x.fst : Int) + (1 : Int) = (↑y.fst : Int) ∧ ops ≍ ops ∧ ab = ab ∧ Value.slice (none : Option Addr) (0 : Nat) (0 : Nat) = Value.slice (none : Option Addr) (0 : Nat) (0 : Nat) ∧ Value.slice (none : Option Addr) (0 : Nat) (0 : Nat) = Value.slice (none : Option Addr) (0 : Nat) (0 : Nat) ∧ (0 : Int) = (0 : Int) ∧ (0 : Int) = (0 : Int) ∧ x.snd.fst ≍ y.snd.fst ∧ x.snd.snd.snd ≍ y.snd.snd.snd ∧ True)))))) ∧ ((y.fst == (4 : Int)) = false → (decide ((↑x.snd.snd.fst : Int) ≥ room) = true → (x.snd.snd.snd.length + ((102 : Int) :: ([] : List Int)).length) * (8 : Nat) ≤ (140737488355328 : Nat) ∧ (([] : List Int).length + m.length) * (8 : Nat) ≤ (140737488355328 : Nat) ∧ ∃ (y : Tup (pR :: ([] : List PS))), y = allT m room (ops, ab) ∧ ([] : List Int) ++ m ≍ y.fst ∧ x.snd.snd.snd ++ (102 : Int) :: ([] : List Int) ≍ y.snd.fst ∧ (0 : Int) = y.snd.snd ∧ True) ∧ (decide ((↑x.snd.snd.fst : Int) ≥ room) = false → ((-9223372036854775808 : Int) ≤ (↑x.snd.snd.fst : Int) + (1 : Int) ∧ (↑x.snd.snd.fst : Int) + (1 : Int) ≤ (9223372036854775807 : Int)) ∧ ((y.fst == (2 : Int)) = true → ((0 : Int) ≤ y.snd.fst ∧ y.snd.fst < (↑x.snd.fst.length : Int)) ∧ y.snd.fst.toNat < x.snd.fst.length ∧ ∀ (z : Int), x.snd.fst[y.snd.fst.toNat]? = some z → ((-9223372036854775808 : Int) ≤ (↑x.fst : Int) + (1 : Int) ∧ (↑x.fst : Int) + (1 : Int) ≤ (9223372036854775807 : Int)) ∧ ∃ (y_1 : X11), I11 m room ops y_1.fst y_1.snd.fst y_1.snd.snd.fst y_1.snd.snd.snd ∧ ops.length - y_1.fst < ops.length - x.fst ∧ m ≍ m ∧ room = room ∧ (↑x.snd.snd.fst : Int) + (1 : Int) = (↑y_1.snd.snd.fst : Int) ∧ (↑x.fst : Int) + (1 : Int) = (↑y_1.fst : Int) ∧ ops ≍ ops ∧ ab = ab ∧ Value.slice (none : Option Addr) (0 : Nat) (0 : Nat) = Value.slice (none : Option Addr) (0 : Nat) (0 : Nat) ∧ Value.slice (none : Option Addr) (0 : Nat) (0 : Nat) = Value.slice (none : Option Addr) (0 : Nat) (0 : Nat) ∧ (0 : Int) = (0 : Int) ∧ (0 : Int) = (0 : Int) ∧ x.snd.fst.set y.snd.fst.toNat y.snd.snd ≍ y_1.snd.fst ∧ x.snd.snd.snd ≍ y_1.snd.snd.snd ∧ True) ∧ ((y.fst == (2 : Int)) = false → ((y.fst == (3 : Int)) = true → ((0 : Int) ≤ y.snd.fst ∧ y.snd.fst < (↑x.snd.fst.length : Int)) ∧ y.snd.fst.toNat < x.snd.fst.length ∧ ∀ (y_1 : Int), x.snd.fst[y.snd.fst.toNat]? = some y_1 → ((0 : Int) ≤ y.snd.fst ∧ y.snd.fst < (↑x.snd.fst.length : Int)) ∧ y.snd.fst.toNat < x.snd.fst.length ∧ ∀ (z : Int), x.snd.fst[y.snd.fst.toNat]? = some z → ((0 : Int) ≤ y.snd.fst ∧ y.snd.fst < (↑(x.snd.fst.set y.snd.fst.toNat (IntKind.u64.wrap (y_1 + y.snd.snd))).length : Int)) ∧ y.snd.fst.toNat < (x.snd.fst.set y.snd.fst.toNat (IntKind.u64.wrap (y_1 + y.snd.snd))).length ∧ ∀ (y_2 : Int), (x.snd.fst.set y.snd.fst.toNat (IntKind.u64.wrap (y_1 + y.snd.snd)))[y.snd.fst.toNat]? = some y_2 → (x.snd.snd.snd.length + (y_2 :: ([] : List Int)).length) * (8 : Nat) ≤ (140737488355328 : Nat) ∧ ((-9223372036854775808 : Int) ≤ (↑x.fst : Int) + (1 : Int) ∧ (↑x.fst : Int) + (1 : Int) ≤ (9223372036854775807 : Int)) ∧ ∃ (y_3 : X11), I11 m room ops y_3.fst y_3.snd.fst y_3.snd.snd.fst y_3.snd.snd.snd ∧ ops.length - y_3.fst < ops.length - x.fst ∧ m ≍ m ∧ room = room ∧ (↑x.snd.snd.fst : Int) + (1 : Int) = (↑y_3.snd.snd.fst : Int) ∧ (↑x.fst : Int) + (1 : Int) = (↑y_3.fst : Int) ∧ ops ≍ ops ∧ ab = ab ∧ Value.slice (none : Option Addr) (0 : Nat) (0 : Nat) = Value.slice (none : Option Addr) (0 : Nat) (0 : Nat) ∧ Value.slice (none : Option Addr) (0 : Nat) (0 : Nat) = Value.slice (none : Option Addr) (0 : Nat) (0 : Nat) ∧ (0 : Int) = (0 : Int) ∧ (0 : Int) = (0 : Int) ∧ x.snd.fst.set y.snd.fst.toNat (IntKind.u64.wrap (y_1 + y.snd.snd)) ≍ y_3.snd.fst ∧ x.snd.snd.snd ++ y_2 :: ([] : List Int) ≍ y_3.snd.snd.snd ∧ True) ∧ ((y.fst == (3 : Int)) = false → ((y.fst == (4 : Int)) = true → ((0 : Int) ≤ y.snd.fst ∧ y.snd.fst < (↑x.snd.fst.length : Int)) ∧ y.snd.fst.toNat < x.snd.fst.length ∧ ∀ (z : Int), x.snd.fst[y.snd.fst.toNat]? = some z → (x.snd.snd.snd.length + ((1 : Int) :: ([] : List Int)).length) * (8 : Nat) ≤ (140737488355328 : Nat) ∧ ((-9223372036854775808 : Int) ≤ (↑x.fst : Int) + (1 : Int) ∧ (↑x.fst : Int) + (1 : Int) ≤ (9223372036854775807 : Int)) ∧ ∃ (y_1 : X11), I11 m room ops y_1.fst y_1.snd.fst y_1.snd.snd.fst y_1.snd.snd.snd ∧ ops.length - y_1.fst < ops.length - x.fst ∧ m ≍ m ∧ room = room ∧ (↑x.snd.snd.fst : Int) + (1 : Int) = (↑y_1.snd.snd.fst : Int) ∧ (↑x.fst : Int) + (1 : Int) = (↑y_1.fst : Int) ∧ ops ≍ ops ∧ ab = ab ∧ Value.slice (none : Option Addr) (0 : Nat) (0 : Nat) = Value.slice (none : Option Addr) (0 : Nat) (0 : Nat) ∧ Value.slice (none : Option Addr) (0 : Nat) (0 : Nat) = Value.slice (none : Option Addr) (0 : Nat) (0 : Nat) ∧ (0 : Int) = (0 : Int) ∧ (0 : Int) = (0 : Int) ∧ x.snd.fst.set y.snd.fst.toNat y.snd.snd ≍ y_1.snd.fst ∧ x.snd.snd.snd ++ (1 : Int) :: ([] : List Int) ≍ y_1.snd.snd.snd ∧ True) ∧ ((y.fst == (4 : Int)) = false → ((-9223372036854775808 : Int) ≤ (↑x.fst : Int) + (1 : Int) ∧ (↑x.fst : Int) + (1 : Int) ≤ (9223372036854775807 : Int)) ∧ ∃ (y : X11), I11 m room ops y.fst y.snd.fst y.snd.snd.fst y.snd.snd.snd ∧ ops.length - y.fst < ops.length - x.fst ∧ m ≍ m ∧ room = room ∧ (↑x.snd.snd.fst : Int) + (1 : Int) = (↑y.snd.snd.fst : Int) ∧ (↑x.fst : Int) + (1 : Int) = (↑y.fst : Int) ∧ ops ≍ ops ∧ ab = ab ∧ Value.slice (none : Option Addr) (0 : Nat) (0 : Nat) = Value.slice (none : Option Addr) (0 : Nat) (0 : Nat) ∧ Value.slice (none : Option Addr) (0 : Nat) (0 : Nat) = Value.slice (none : Option Addr) (0 : Nat) (0 : Nat) ∧ (0 : Int) = (0 : Int) ∧ (0 : Int) = (0 : Int) ∧ x.snd.fst ≍ y.snd.fst ∧ x.snd.snd.snd ≍ y.snd.snd.snd ∧ True)))))))) ∧ (decide ((↑x.fst : Int) < (↑ops.length : Int)) = false → (ab = true → (x.snd.snd.snd.length + ((104 : Int) :: ([] : List Int)).length) * (8 : Nat) ≤ (140737488355328 : Nat) ∧ (([] : List Int).length + m.length) * (8 : Nat) ≤ (140737488355328 : Nat) ∧ ∃ (y : Tup (pR :: ([] : List PS))), y = allT m room (ops, ab) ∧ ([] : List Int) ++ m ≍ y.fst ∧ x.snd.snd.snd ++ (104 : Int) :: ([] : List Int) ≍ y.snd.fst ∧ (0 : Int) = y.snd.snd ∧ True) ∧ (ab = false → (x.snd.snd.snd.length + ((101 : Int) :: ([] : List Int)).length) * (8 : Nat) ≤ (140737488355328 : Nat) ∧ ∃ (y : Tup (pR :: ([] : List PS))), y = allT m room (ops, ab) ∧ x.snd.fst ≍ y.fst ∧ x.snd.snd.snd ++ (101 : Int) :: ([] : List Int) ≍ y.snd.fst ∧ (0 : Int) = y.snd.snd ∧ True))))) = _) ?_
  have hp : m.length ≤ 1000000 := hp
  refine ⟨fun h => ⟨([], [], 11), ?_, rfl, rfl, rfl, trivial⟩, fun h => ?_⟩
  · have hg : goodT (ops.map toOp) = false := by simpa using h
    unfold allT allS
    rw [if_neg (by simp [hg])]
  have hg : goodT (ops.map toOp) = true := by simpa using h
  refine ⟨fun h2 => ⟨([], [], 1), ?_, rfl, rfl, rfl, trivial⟩, fun h2 => ⟨by simp; omega, ?_⟩⟩
  · unfold allT allS
    simp only [Bool.or_eq_true, decide_eq_true_eq] at h2
    rw [if_pos hg, if_pos (by omega)]
  have hro : ¬ (room < 0 ∨ 1000 < room ∨ 1000 < (m.length : Int)) := by
    simp only [Bool.or_eq_false_iff, decide_eq_false_iff_not] at h2
    omega
  have hm1 : m.length ≤ 1000 := by omega
  have hl : ops.length ≤ 16 := by
    simp only [goodT, Bool.and_eq_true, decide_eq_true_eq, List.length_map] at hg
    exact hg.2
  have hgo : ∀ o ∈ ops, goodO (toOp o) = true := fun o ho => by
    simp only [goodT, Bool.and_eq_true] at hg
    exact List.all_eq_true.1 hg.1 _ (List.mem_map.2 ⟨o, ho, rfl⟩)
  clear h h2 hr
  refine ⟨⟨(0, m, 0, []), ⟨Nat.zero_le _, rfl, rfl, by simp, Nat.zero_le _⟩, HEq.rfl, rfl, rfl, rfl, HEq.rfl, rfl, rfl, rfl, rfl, rfl, HEq.rfl, rfl, trivial⟩, ?_⟩
  rintro ⟨i, cur, n, tells⟩ hI
  dsimp only at hI ⊢
  obtain ⟨i1, i2, i3, i4, i5⟩ := id hI
  refine ⟨fun h1 => ⟨by simp at h1; omega, fun o ho => ?_⟩, fun h1 => ⟨fun hb => ⟨by simp; omega, by simp; omega, ?_⟩, fun hb => ⟨by simp; omega, ?_⟩⟩⟩
  · rw [Int.toNat_natCast] at ho
    have hgo := hgo o (List.mem_of_getElem? ho)
    obtain ⟨k, q, v⟩ := o
    have hk4 : 1 ≤ k ∧ k ≤ 4 := by
      obtain ⟨g1, g2, -⟩ := of_decide_eq_true hgo
      exact ⟨g1, g2⟩
    clear hgo
    dsimp only
    refine ⟨fun h3 => ⟨by simp; omega, by simp; omega, ?_⟩, fun h3 => ?_⟩
    · have hw : q < 0 ∨ (m.length : Int) ≤ q := by simpa using h3
      refine out11 (allT_run hg hro (k := 103) (c := cur) (t := tells) ?_) rfl
      rw [← i2, drop_op ho, runS_out hw]
    have hw : ¬ (q < 0 ∨ (m.length : Int) ≤ q) := by simpa using h3
    have hq : 0 ≤ q ∧ q < (cur.length : Int) := by omega
    have hq2 : q.toNat < cur.length := by omega
    clear h3
    refine ⟨fun k1 => ⟨hq, hq2, fun y hy => ⟨by simp; omega, ?_⟩⟩, fun k1 => ⟨fun k4 => ⟨hq, hq2, fun y hy => ⟨fun hz => ⟨by simp; omega, ?_⟩, fun hz => ?_⟩⟩, fun k4 => ?_⟩⟩
    · have k1 : k = 1 := by simpa using k1
      refine leaf11 hI hl ho hw rfl ?_ i3 (by simp; omega) (by omega)
      rw [stepS_to, if_pos k1]
      simp only [List.getD, hy, Option.getD_some]
    · have k4 : k = 4 := by simpa using k4
      refine leaf11 hI hl ho hw rfl ?_ i3 (by simp; omega) (by omega)
      rw [stepS_to, if_neg (by omega), if_pos ⟨k4, by simp only [List.getD, hy, Option.getD_some]; simpa using hz⟩]
    all_goals
      have hnt : ¬ (k = 4 ∧ ¬ cur.getD q.toNat 0 = 0) := by
        rintro ⟨h5, h6⟩
        first
          | exact h6 (by simp only [List.getD, hy, Option.getD_some]; simpa using hz)
          | (rw [h5] at k4; exact absurd k4 (by decide))
      have k1 : ¬ k = 1 := by simpa using k1
      refine ⟨fun hn => ⟨by simp; omega, by simp; omega, ?_⟩, fun hn => ⟨by omega, ?_⟩⟩
      · have hn : room ≤ (n : Int) := by simpa using hn
        refine out11 (allT_run hg hro (k := 102) (c := cur) (t := tells) ?_) rfl
        have hs : stepS room cur n tells (toOp (k, q, v)) = (false, cur, n, tells) := by
          rw [stepS_to, if_neg k1, if_neg hnt, if_pos hn]
        rw [← i2, drop_op ho, runS_full room m.length _ _ cur n tells hw (by rw [hs]), hs]
      · have hn : ¬ room ≤ (n : Int) := by simpa using hn
        refine ⟨fun k2 => ⟨hq, hq2, fun z hz => ?_⟩, fun k2 => ⟨fun k3 => ⟨hq, hq2, fun y hy => ⟨hq, hq2, fun z hz => ⟨by simp; omega, by simp; omega, fun y2 hy2 => ⟨by simp; omega, ?_⟩⟩⟩⟩, fun k3 => ⟨fun k4 => ⟨hq, hq2, fun z hz => ⟨by simp; omega, ?_⟩⟩, fun k4 => ?_⟩⟩⟩
        · have k2 : k = 2 := by simpa using k2
          refine leaf11 (n' := n + 1) hI hl ho hw (by omega) ?_ (by simp; omega) (by omega) (by omega)
          rw [stepS_to, if_neg k1, if_neg hnt, if_neg hn, if_pos k2]
        · have k2 : ¬ k = 2 := by simpa using k2
          have k3 : k = 3 := by simpa using k3
          rw [List.getElem?_set_self (by omega)] at hy2
          cases hy2
          refine leaf11 (n' := n + 1) hI hl ho hw (by omega) ?_ (by simp; omega) (by simp; omega) (by omega)
          rw [stepS_to, if_neg k1, if_neg hnt, if_neg hn, if_neg k2, if_pos k3]
          simp only [List.getD, hy, Option.getD_some]
          rw [Int.add_comm]
        · have k2 : ¬ k = 2 := by simpa using k2
          have k3 : ¬ k = 3 := by simpa using k3
          refine leaf11 (n' := n + 1) hI hl ho hw (by omega) ?_ (by simp; omega) (by simp; omega) (by omega)
          rw [stepS_to, if_neg k1, if_neg hnt, if_neg hn, if_neg k2, if_neg k3]
        · have k2 : ¬ k = 2 := by simpa using k2
          have k3 : ¬ k = 3 := by simpa using k3
          have k4 : ¬ k = 4 := by simpa using k4
          omega
  · simp only [decide_eq_false_iff_not] at h1
    subst hb
    refine out11 (allT_run hg hro (k := 0) (c := cur) (t := tells) ?_) rfl
    · rw [← i2, List.drop_of_length_le (by omega)]; rfl
  · simp only [decide_eq_false_iff_not] at h1
    subst hb
    refine out11 (allT_run hg hro (k := 0) (c := cur) (t := tells) ?_) rfl
    · rw [← i2, List.drop_of_length_le (by omega)]; rfl
end Go.Proofs.Ytigbhlkafmpgmaa.V
