import Derived.KernelRfl
import Derived.Test.YteddnnljmdjfbaaEf
namespace Go.Proofs.Yteddnnljmdjfbaa.V
open Go.RowKit Go.Proofs.Yteddnnljmdjfbaa
set_option linter.unusedSimpArgs false
abbrev shU : Sh := .int .u64
def setM : IN → Int → IN := fun (op, a, b, c, _) v => (op, a, b, c, v)
def pat1 (ms : List Int) (l : List IN) (j : JN) : List IN := l.set j.1.toNat (setM (l.getD j.1.toNat zI) (ms.getD j.2.toNat 0))
def patch (ms : List Int) (js : List JN) (l : List IN) : List IN := js.foldl (pat1 ms) l
def bare (ms : List Int) (js : List JN) : Bool := js.any fun j => decide (ms.getD j.2.toNat 0 < 0)
def encs (l : List IN) : List Int × Int := if l.all goodF = true then (if l.length > 4096 then ([], 3) else (l.map encW, 0)) else ([], 11)
def doneB (bad : Bool) (l : List IN) (ms : List Int) (js : List JN) : List Int × Int := if bad = true then ([], 1) else if bare ms js = true then ([], 20) else encs (patch ms js l)
theorem pat1_len (ms : List Int) (l : List IN) (j : JN) : (pat1 ms l j).length = l.length := by simp [pat1]
theorem patch_len (ms : List Int) (js : List JN) (l : List IN) : (patch ms js l).length = l.length := by
  induction js generalizing l with
  | nil => rfl
  | cons j r ih => show (patch ms r (pat1 ms l j)).length = _; rw [ih, pat1_len]
theorem patch_succ {ms : List Int} {js : List JN} {l : List IN} {k : Nat} {j : JN} (h : js[k]? = some j) : patch ms (js.take (k + 1)) l = pat1 ms (patch ms (js.take k) l) j := by
  rw [List.take_add_one, h]; simp [patch]
/-- The jumps name places and marks that there are. -/
def jsOk (l : List IN) (ms : List Int) (js : List JN) : Prop := ∀ j ∈ js, (0 ≤ j.1 ∧ j.1 < (l.length : Int)) ∧ 0 ≤ j.2 ∧ j.2 < (ms.length : Int)
def done1 : PT where
  ps := [.one (.p 0 0)]
  rg := bR
  na := 4
  rs := [.one (.s 4), .one I]
  out := bR ++ [(4, .own 61 shU)]
  nx := 5
  pre := fun (_, l, ms, js, _) => jsOk l ms js ∧ l.length ≤ 100000
  post := fun (bad, l, ms, js, _) (e, bad', l', ms', js', o, _) => (o, e) = doneB bad l ms js ∧ bad' = bad ∧ l' = l ∧ ms' = ms ∧ js' = js
def done2 : PT where
  ps := [.one .nil]
  rg := []
  na := 0
  rs := [.one (.s 0), .one I]
  out := [(0, .own 61 shU)]
  nx := 1
  pre := fun _ => True
  post := fun _ (e, o, _) => o = [] ∧ e = 1
abbrev bH (bad : Bool) (l : List IN) (ms : List Int) (js : List JN) : List (Nat × Ck) := [(0, .blk [.sl 1, .sl 2, .sl 3, .val (.bool bad)] 30), (1, .own 36 shI l), (2, .own 3 shi ms), (3, .own 59 shJ js)]
structure I1 (ms : List Int) (js : List JN) (k : Nat) : Prop where
  le : k ≤ js.length
  f : bare ms (js.take k) = false
structure I2 (l : List IN) (k : Nat) : Prop where
  le : k ≤ l.length
  g : (l.take k).all goodF = true
abbrev vi (z : Int) : CV := .val (.int .i64 z)
abbrev lp18 (bad : Bool) (l : List IN) (ms : List Int) (js : List JN) : Nat → Option LoopSp := fun r => match Nat.beq r 5 with
  | true => some { X := Nat, sl := fun k => [(0, .one (.ptr 0 0)), (4, .one (.sl 4)), (28, .one (.sl 3)), (29, .one (vi js.length)), (30, .one (vi k))], h := fun k => bH bad l ms js ++ [(4, .own 36 shI (patch ms (js.take k) l))], nx := 5, inv := fun k => I1 ms js k, mu := fun k => js.length - k }
  | false => (match Nat.beq r 13 with
    | true => some { X := Nat, sl := fun k => [(0, .one (.ptr 0 0)), (7, .one (.sl 5)), (57, .one (.sl 4)), (58, .one (vi l.length)), (59, .one (vi k))], h := fun k => bH bad l ms js ++ [(4, .own 36 shI (patch ms js l)), (5, .own 61 shU (((patch ms js l).take k).map encW))], nx := 6, inv := fun k => I2 (patch ms js l) k, mu := fun k => l.length - k }
    | false => none)
theorem bare_succ {ms : List Int} {js : List JN} {k : Nat} {j : JN} (h : js[k]? = some j) : bare ms (js.take (k + 1)) = (bare ms (js.take k) || decide (ms.getD j.2.toNat 0 < 0)) := by
  rw [List.take_add_one, h]; simp [bare]
theorem bare_in {ms : List Int} {js : List JN} {k : Nat} {j : JN} (h : js[k]? = some j) (h2 : ms.getD j.2.toNat 0 < 0) : bare ms js = true := by
  simp only [bare, List.any_eq_true]
  exact ⟨j, List.mem_of_getElem? h, by simpa using h2⟩
theorem getD_of {α : Type} {l : List α} {i : Nat} {d y : α} (h : l[i]? = some y) : l.getD i d = y := by simp [List.getD, h]
theorem good_succ {l : List IN} {k : Nat} {i : IN} (h : l[k]? = some i) : (l.take (k + 1)).all goodF = ((l.take k).all goodF && goodF i) := by
  rw [List.take_add_one, h]; simp
theorem bad_in {l : List IN} {k : Nat} {i : IN} (h : l[k]? = some i) (h2 : goodF i = false) : l.all goodF = false := by
  simp only [List.all_eq_false]
  exact ⟨i, List.mem_of_getElem? h, by simp [h2]⟩
theorem v18 : Valid Try.prog 18 (.full (callsP [done1, done2])) := by
  refine valid_Ps mixed Tbl_ok M3_ok Try.func18 call18 ⟨?a, ?b, trivial⟩
  case a =>
    intro (bad : Bool) (l : List IN) (ms : List Int) (js : List JN) hp hr hh
    refine ⟨lp18 bad l ms js, ?_⟩
    refine Eq.mp (by kernel_rfl : ((bad = true → ∃ (x : Int), ∃ (x_1 : Bool), ∃ (x_2 : List (Int × Int × Int × Int × Int)), ∃ (x_3 : List Int), ∃ (x_4 : List (Int × Int)), ∃ (x_5 : List Int), ((1 : Int) = x ∧ bad = x_1 ∧ l ≍ x_2 ∧ ms ≍ x_3 ∧ js ≍ x_4 ∧ x_5 = ([] : List Int) ∧ True) ∧ (x_5, x) = doneB bad l ms js ∧ x_1 = bad ∧ x_2 = l ∧ x_3 = ms ∧ x_4 = js) ∧ (bad = false → l.length ≤ (100000 : Nat) ∧ ∀ (x x_1 : List (Int × Int × Int × Int × Int)), x = l ∧ x_1 = l → (∃ (x_2 : Nat), I1 ms js x_2 ∧ (↑js.length : Int) = (↑js.length : Int) ∧ (0 : Int) = (↑x_2 : Int) ∧ bad = bad ∧ x ≍ l ∧ ms ≍ ms ∧ js ≍ js ∧ x_1 ≍ patch ms (List.take x_2 js) l ∧ True) ∧ ∀ (x : Nat), I1 ms js x → (decide ((↑x : Int) < (↑js.length : Int)) = true → ((0 : Int) ≤ (↑x : Int) ∧ (↑x : Int) < (↑js.length : Int)) ∧ (↑x : Int).toNat < js.length ∧ ∀ (y : Int × Int), js[(↑x : Int).toNat]? = some y → ((0 : Int) ≤ y.snd ∧ y.snd < (↑ms.length : Int)) ∧ y.snd.toNat < ms.length ∧ ∀ (y_1 : Int), ms[y.snd.toNat]? = some y_1 → (decide (y_1 < (0 : Int)) = true → ∃ (x : Int), ∃ (x_2 : Bool), ∃ (x_3 : List (Int × Int × Int × Int × Int)), ∃ (x_4 : List Int), ∃ (x_5 : List (Int × Int)), ∃ (x_6 : List Int), ((20 : Int) = x ∧ bad = x_2 ∧ l ≍ x_3 ∧ ms ≍ x_4 ∧ js ≍ x_5 ∧ x_6 = ([] : List Int) ∧ True) ∧ (x_6, x) = doneB bad l ms js ∧ x_2 = bad ∧ x_3 = l ∧ x_4 = ms ∧ x_5 = js) ∧ (decide (y_1 < (0 : Int)) = false → ((0 : Int) ≤ y.snd ∧ y.snd < (↑ms.length : Int)) ∧ y.snd.toNat < ms.length ∧ ∀ (y_2 : Int), ms[y.snd.toNat]? = some y_2 → ((0 : Int) ≤ y.fst ∧ y.fst < (↑(patch ms (List.take x js) l).length : Int)) ∧ y.fst.toNat < (patch ms (List.take x js) l).length ∧ ∀ (z : Int × Int × Int × Int × Int), (patch ms (List.take x js) l)[y.fst.toNat]? = some z → ((-9223372036854775808 : Int) ≤ (↑x : Int) + (1 : Int) ∧ (↑x : Int) + (1 : Int) ≤ (9223372036854775807 : Int)) ∧ ∃ (y_3 : Nat), I1 ms js y_3 ∧ js.length - y_3 < js.length - x ∧ (↑js.length : Int) = (↑js.length : Int) ∧ (↑x : Int) + (1 : Int) = (↑y_3 : Int) ∧ bad = bad ∧ l ≍ l ∧ ms ≍ ms ∧ js ≍ js ∧ (patch ms (List.take x js) l).set y.fst.toNat (z.fst, z.snd.fst, z.snd.snd.fst, z.snd.snd.snd.fst, y_2) ≍ patch ms (List.take y_3 js) l ∧ True)) ∧ (decide ((↑x : Int) < (↑js.length : Int)) = false → (∃ (x_2 : Nat), I2 (patch ms js l) x_2 ∧ (↑(patch ms (List.take x js) l).length : Int) = (↑l.length : Int) ∧ (0 : Int) = (↑x_2 : Int) ∧ bad = bad ∧ l ≍ l ∧ ms ≍ ms ∧ js ≍ js ∧ patch ms (List.take x js) l ≍ patch ms js l ∧ List.map encW (List.take x_2 (patch ms js l)) = ([] : List Int) ∧ True) ∧ ∀ (x : Nat), I2 (patch ms js l) x → (decide ((↑x : Int) < (↑l.length : Int)) = true → ((0 : Int) ≤ (↑x : Int) ∧ (↑x : Int) < (↑(patch ms js l).length : Int)) ∧ (↑x : Int).toNat < (patch ms js l).length ∧ ∀ (y : Int × Int × Int × Int × Int), (patch ms js l)[(↑x : Int).toNat]? = some y → (((encF (y.fst, y.snd.fst, y.snd.snd.fst, y.snd.snd.snd.fst, y.snd.snd.snd.snd)).snd != (0 : Int)) = true → ∃ (x : Int), ∃ (x_2 : Bool), ∃ (x_3 : List (Int × Int × Int × Int × Int)), ∃ (x_4 : List Int), ∃ (x_5 : List (Int × Int)), ∃ (x_6 : List Int), ((encF (y.fst, y.snd.fst, y.snd.snd.fst, y.snd.snd.snd.fst, y.snd.snd.snd.snd)).snd = x ∧ bad = x_2 ∧ l ≍ x_3 ∧ ms ≍ x_4 ∧ js ≍ x_5 ∧ x_6 = ([] : List Int) ∧ True) ∧ (x_6, x) = doneB bad l ms js ∧ x_2 = bad ∧ x_3 = l ∧ x_4 = ms ∧ x_5 = js) ∧ (((encF (y.fst, y.snd.fst, y.snd.snd.fst, y.snd.snd.snd.fst, y.snd.snd.snd.snd)).snd != (0 : Int)) = false → ((List.map encW (List.take x (patch ms js l))).length + ((encF (y.fst, y.snd.fst, y.snd.snd.fst, y.snd.snd.snd.fst, y.snd.snd.snd.snd)).fst :: ([] : List Int)).length) * (8 : Nat) ≤ (140737488355328 : Nat) ∧ ((-9223372036854775808 : Int) ≤ (↑x : Int) + (1 : Int) ∧ (↑x : Int) + (1 : Int) ≤ (9223372036854775807 : Int)) ∧ ∃ (y_1 : Nat), I2 (patch ms js l) y_1 ∧ l.length - y_1 < l.length - x ∧ (↑l.length : Int) = (↑l.length : Int) ∧ (↑x : Int) + (1 : Int) = (↑y_1 : Int) ∧ bad = bad ∧ l ≍ l ∧ ms ≍ ms ∧ js ≍ js ∧ patch ms js l ≍ patch ms js l ∧ List.map encW (List.take x (patch ms js l)) ++ (encF (y.fst, y.snd.fst, y.snd.snd.fst, y.snd.snd.snd.fst, y.snd.snd.snd.snd)).fst :: ([] : List Int) ≍ List.map encW (List.take y_1 (patch ms js l)) ∧ True)) ∧ (decide ((↑x : Int) < (↑l.length : Int)) = false → (decide ((↑(List.map encW (List.take x (patch ms js l))).length : Int) > (4096 : Int)) = true → ∃ (x : Int), ∃ (x_2 : Bool), ∃ (x_3 : List (Int × Int × Int × Int × Int)), ∃ (x_4 : List Int), ∃ (x_5 : List (Int × Int)), ∃ (x_6 : List Int), ((3 : Int) = x ∧ bad = x_2 ∧ l ≍ x_3 ∧ ms ≍ x_4 ∧ js ≍ x_5 ∧ x_6 = ([] : List Int) ∧ True) ∧ (x_6, x) = doneB bad l ms js ∧ x_2 = bad ∧ x_3 = l ∧ x_4 = ms ∧ x_5 = js) ∧ (decide ((↑(List.map encW (List.take x (patch ms js l))).length : Int) > (4096 : Int)) = false → ∃ (x_2 : Int), ∃ (x_3 : Bool), ∃ (x_4 : List (Int × Int × Int × Int × Int)), ∃ (x_5 : List Int), ∃ (x_6 : List (Int × Int)), ∃ (x_7 : List Int), ((0 : Int) = x_2 ∧ bad = x_3 ∧ l ≍ x_4 ∧ ms ≍ x_5 ∧ js ≍ x_6 ∧ List.map encW (List.take x (patch ms js l)) ≍ x_7 ∧ True) ∧ (x_7, x_2) = doneB bad l ms js ∧ x_3 = bad ∧ x_4 = l ∧ x_5 = ms ∧ x_6 = js))))) = _) ?_
    have hp : jsOk l ms js ∧ l.length ≤ 100000 := hp
    obtain ⟨hj, hl⟩ := hp
    have b1 : ms.length ≤ maxLen := hh.2.2.1.1
    have b2 : js.length ≤ maxLen := hh.2.2.2.1.1
    unfold maxLen at b1 b2
    clear hr hh
    refine ⟨fun hb => ?_, fun hb => ⟨hl, ?_⟩⟩
    · exact ⟨_, _, _, _, _, _, ⟨rfl, rfl, HEq.rfl, HEq.rfl, HEq.rfl, rfl, trivial⟩, by simp [doneB, hb], rfl, rfl, rfl, rfl⟩
    intro l1 l2 ⟨e1, e2⟩
    obtain rfl := e1.symm
    obtain rfl := e2.symm
    refine ⟨⟨0, ⟨by omega, by simp [bare]⟩, rfl, rfl, rfl, HEq.rfl, HEq.rfl, HEq.rfl, by simp [patch], trivial⟩, fun k hk => ⟨fun h1 => ?_, fun h1 => ?_⟩⟩
    · simp only [decide_eq_true_eq] at h1
      refine ⟨by omega, by omega, fun j hjk => ?_⟩
      simp only [Int.toNat_natCast] at hjk
      obtain ⟨j1, j2⟩ := hj j (List.mem_of_getElem? hjk)
      refine ⟨j2, by omega, fun v hv => ⟨fun h2 => ?_, fun h2 => ⟨j2, by omega, fun v2 hv2 => ⟨by rw [patch_len]; exact j1, by rw [patch_len]; omega, fun z hz => ⟨by omega, k + 1, ⟨by omega, ?_⟩, by omega, rfl, by simp, rfl, HEq.rfl, HEq.rfl, HEq.rfl, heq_of_eq ?_, trivial⟩⟩⟩⟩⟩
      · have : bare ms js = true := bare_in hjk (by rw [getD_of hv]; simpa using h2)
        exact ⟨_, _, _, _, _, _, ⟨rfl, rfl, HEq.rfl, HEq.rfl, HEq.rfl, rfl, trivial⟩, by simp [doneB, hb, this], rfl, rfl, rfl, rfl⟩
      · rw [bare_succ hjk, hk.f, getD_of hv]; simpa using h2
      · rw [patch_succ hjk, pat1, getD_of hz, getD_of hv2]
        rfl
    · simp only [decide_eq_false_iff_not] at h1
      have hkl : k = js.length := by have := hk.le; omega
      subst hkl
      have hf := hk.f
      rw [List.take_length] at hf
      rw [List.take_length]
      have hd : doneB bad l ms js = encs (patch ms js l) := by simp [doneB, hb, hf]
      refine ⟨⟨0, ⟨by omega, by simp⟩, by rw [patch_len], rfl, rfl, HEq.rfl, HEq.rfl, HEq.rfl, HEq.rfl, by simp, trivial⟩, fun k hk => ⟨fun h1 => ?_, fun h1 => ?_⟩⟩
      · simp only [decide_eq_true_eq] at h1
        refine ⟨by rw [patch_len]; omega, by rw [patch_len]; omega, fun i hi => ?_⟩
        simp only [Int.toNat_natCast] at hi
        cases hg : goodF i with
        | false =>
          have : (encF (i.fst, i.snd.fst, i.snd.snd.fst, i.snd.snd.snd.fst, i.snd.snd.snd.snd)) = (0, 11) := encF_f hg
          rw [this]
          refine ⟨fun _ => ?_, fun h => by simp at h⟩
          exact ⟨_, _, _, _, _, _, ⟨rfl, rfl, HEq.rfl, HEq.rfl, HEq.rfl, rfl, trivial⟩, by rw [hd, encs, bad_in hi hg]; rfl, rfl, rfl, rfl, rfl⟩
        | true =>
          have : (encF (i.fst, i.snd.fst, i.snd.snd.fst, i.snd.snd.snd.fst, i.snd.snd.snd.snd)) = (encW i, 0) := encF_t hg
          rw [this]
          refine ⟨fun h => by simp at h, fun _ => ⟨by simp; omega, by omega, k + 1, ⟨by rw [patch_len]; omega, by rw [good_succ hi, hk.g, hg]; rfl⟩, by omega, rfl, by simp, rfl, HEq.rfl, HEq.rfl, HEq.rfl, HEq.rfl, heq_of_eq ?_, trivial⟩⟩
          rw [List.take_add_one, hi]; simp
      · simp only [decide_eq_false_iff_not] at h1
        have hle := hk.le
        rw [patch_len] at hle
        have hkl : k = (patch ms js l).length := by rw [patch_len]; omega
        subst hkl
        have hg := hk.g
        rw [List.take_length] at hg
        rw [List.take_length]
        have he : doneB bad l ms js = if (patch ms js l).length > 4096 then ([], 3) else ((patch ms js l).map encW, 0) := by rw [hd, encs, if_pos hg]
        simp only [List.length_map, decide_eq_true_eq, decide_eq_false_iff_not]
        refine ⟨fun h2 => ?_, fun h2 => ?_⟩
        · exact ⟨_, _, _, _, _, _, ⟨rfl, rfl, HEq.rfl, HEq.rfl, HEq.rfl, rfl, trivial⟩, by rw [he, if_pos (by omega)], rfl, rfl, rfl, rfl⟩
        · exact ⟨_, _, _, _, _, _, ⟨rfl, rfl, HEq.rfl, HEq.rfl, HEq.rfl, HEq.rfl, trivial⟩, by rw [he, if_neg (by omega)], rfl, rfl, rfl, rfl⟩
  case b =>
    intro hp hr hh
    refine ⟨noLoop, ?_⟩
    refine Eq.mp (by kernel_rfl : (∃ (x : Int), ∃ (x_1 : List Int), ((1 : Int) = x ∧ x_1 = ([] : List Int) ∧ True) ∧ x_1 = ([] : List Int) ∧ x = (1 : Int)) = _) ?_
    exact ⟨_, _, ⟨rfl, rfl, trivial⟩, rfl, rfl⟩
end Go.Proofs.Yteddnnljmdjfbaa.V
