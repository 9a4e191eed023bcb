import Derived.KernelRfl
import Derived.Test.YteddnnljmdjfbaaEg
namespace Go.Proofs.Yteddnnljmdjfbaa.V
open Go.RowKit Go.Proofs.Yteddnnljmdjfbaa
set_option linter.unusedSimpArgs false
def rbare (ms : List Int) (it : List TN) : Bool := it.any fun t => decide (t.2 ≥ 0) && decide (ms.getD t.2.toNat 0 < 0)
def rpat (ms : List Int) (t : TN) : IN := if t.2 ≥ 0 then setM t.1 (ms.getD t.2.toNat 0) else t.1
def doneR (bad : Bool) (it : List TN) (ms : List Int) : List Int × Int := if bad = true then ([], 1) else if rbare ms it = true then ([], 20) else encs (it.map (rpat ms))
def itOk (it : List TN) (ms : List Int) : Prop := ∀ t ∈ it, t.2 < (ms.length : Int)
def rdone1 : PT where
  ps := [.one (.p 0 0)]
  rg := rR
  na := 3
  rs := [.one (.s 3), .one I]
  out := rR ++ [(3, .own 61 shU)]
  nx := 4
  pre := fun (_, it, ms, _) => itOk it ms ∧ it.length ≤ 100000
  post := fun (bad, it, ms, _) (e, bad', it', ms', o, _) => (o, e) = doneR bad it ms ∧ bad' = bad ∧ it' = it ∧ ms' = ms
abbrev rH (bad : Bool) (it : List TN) (ms : List Int) : List (Nat × Ck) := [(0, .blk [.sl 1, .sl 2, .val (.bool bad)] 34), (1, .own 56 shT it), (2, .own 3 shi ms)]
structure I3 (ms : List Int) (it : List TN) (k : Nat) : Prop where
  le : k ≤ it.length
  f : rbare ms (it.take k) = false
abbrev lp19 (bad : Bool) (it : List TN) (ms : List Int) : Nat → Option LoopSp := fun r => match Nat.beq r 4 with
  | true => some { X := Nat, sl := fun k => [(0, .one (.ptr 0 0)), (4, .one (vi k))], h := fun k => rH bad it ms, nx := 3, inv := fun k => I3 ms it k, mu := fun k => it.length - k }
  | false => (match Nat.beq r 10 with
    | true => some { X := Nat, sl := fun k => [(0, .one (.ptr 0 0)), (5, .one (.sl 3)), (6, .one (vi k))], h := fun k => rH bad it ms ++ [(3, .own 61 shU (((it.map (rpat ms)).take k).map encW))], nx := 4, inv := fun k => I2 (it.map (rpat ms)) k, mu := fun k => it.length - k }
    | false => none)
theorem rbare_succ {ms : List Int} {it : List TN} {k : Nat} {t : TN} (h : it[k]? = some t) : rbare ms (it.take (k + 1)) = (rbare ms (it.take k) || (decide (t.2 ≥ 0) && decide (ms.getD t.2.toNat 0 < 0))) := by
  rw [List.take_add_one, h]; simp [rbare]
theorem rbare_in {ms : List Int} {it : List TN} {k : Nat} {t : TN} (h : it[k]? = some t) (h1 : t.2 ≥ 0) (h2 : ms.getD t.2.toNat 0 < 0) : rbare ms it = true := by
  simp only [rbare, List.any_eq_true]
  exact ⟨t, List.mem_of_getElem? h, by simpa using ⟨h1, h2⟩⟩
theorem setM_eq (i : IN) (v : Int) : (i.fst, i.snd.fst, i.snd.snd.fst, i.snd.snd.snd.fst, v) = setM i v := rfl
theorem v19 : Valid Try.prog 19 (.full rdone1.call) := by
  refine valid_P mixed Tbl_ok M3_ok Try.func19 call19 ?_
  intro (bad : Bool) (it : List TN) (ms : List Int) hp hr hh
  refine ⟨lp19 bad it ms, ?_⟩
  refine Eq.mp (by kernel_rfl : ((bad = true → ∃ (x : Int), ∃ (x_1 : Bool), ∃ (x_2 : List ((Int × Int × Int × Int × Int) × Int)), ∃ (x_3 : List Int), ∃ (x_4 : List Int), ((1 : Int) = x ∧ bad = x_1 ∧ it ≍ x_2 ∧ ms ≍ x_3 ∧ x_4 = ([] : List Int) ∧ True) ∧ (x_4, x) = doneR bad it ms ∧ x_1 = bad ∧ x_2 = it ∧ x_3 = ms) ∧ (bad = false → (∃ (x : Nat), I3 ms it x ∧ (0 : Int) = (↑x : Int) ∧ bad = bad ∧ it ≍ it ∧ ms ≍ ms ∧ True) ∧ ∀ (x : Nat), I3 ms it x → (decide ((↑x : Int) < (↑it.length : Int)) = true → ((0 : Int) ≤ (↑x : Int) ∧ (↑x : Int) < (↑it.length : Int)) ∧ (↑x : Int).toNat < it.length ∧ ∀ (y : (Int × Int × Int × Int × Int) × Int), it[(↑x : Int).toNat]? = some y → (decide (y.snd ≥ (0 : Int)) = true → ((0 : Int) ≤ (↑x : Int) ∧ (↑x : Int) < (↑it.length : Int)) ∧ (↑x : Int).toNat < it.length ∧ ∀ (y : (Int × Int × Int × Int × Int) × Int), it[(↑x : Int).toNat]? = some y → ((0 : Int) ≤ y.snd ∧ y.snd < (↑ms.length : Int)) ∧ y.snd.toNat < ms.length ∧ ∀ (y_1 : Int), ms[y.snd.toNat]? = some y_1 → (decide (y_1 < (0 : Int)) = true → ∃ (x : Int), ∃ (x_1 : Bool), ∃ (x_2 : List ((Int × Int × Int × Int × Int) × Int)), ∃ (x_3 : List Int), ∃ (x_4 : List Int), ((20 : Int) = x ∧ bad = x_1 ∧ it ≍ x_2 ∧ ms ≍ x_3 ∧ x_4 = ([] : List Int) ∧ True) ∧ (x_4, x) = doneR bad it ms ∧ x_1 = bad ∧ x_2 = it ∧ x_3 = ms) ∧ (decide (y_1 < (0 : Int)) = false → ((-9223372036854775808 : Int) ≤ (↑x : Int) + (1 : Int) ∧ (↑x : Int) + (1 : Int) ≤ (9223372036854775807 : Int)) ∧ ∃ (y : Nat), I3 ms it y ∧ it.length - y < it.length - x ∧ (↑x : Int) + (1 : Int) = (↑y : Int) ∧ bad = bad ∧ it ≍ it ∧ ms ≍ ms ∧ True)) ∧ (decide (y.snd ≥ (0 : Int)) = false → ((-9223372036854775808 : Int) ≤ (↑x : Int) + (1 : Int) ∧ (↑x : Int) + (1 : Int) ≤ (9223372036854775807 : Int)) ∧ ∃ (y : Nat), I3 ms it y ∧ it.length - y < it.length - x ∧ (↑x : Int) + (1 : Int) = (↑y : Int) ∧ bad = bad ∧ it ≍ it ∧ ms ≍ ms ∧ True)) ∧ (decide ((↑x : Int) < (↑it.length : Int)) = false → (∃ (x : Nat), I2 (List.map (rpat ms) it) x ∧ (0 : Int) = (↑x : Int) ∧ bad = bad ∧ it ≍ it ∧ ms ≍ ms ∧ List.map encW (List.take x (List.map (rpat ms) it)) = ([] : List Int) ∧ True) ∧ ∀ (x : Nat), I2 (List.map (rpat ms) it) x → (decide ((↑x : Int) < (↑it.length : Int)) = true → ((0 : Int) ≤ (↑x : Int) ∧ (↑x : Int) < (↑it.length : Int)) ∧ (↑x : Int).toNat < it.length ∧ ∀ (y : (Int × Int × Int × Int × Int) × Int), it[(↑x : Int).toNat]? = some y → ((0 : Int) ≤ (↑x : Int) ∧ (↑x : Int) < (↑it.length : Int)) ∧ (↑x : Int).toNat < it.length ∧ ∀ (y_1 : (Int × Int × Int × Int × Int) × Int), it[(↑x : Int).toNat]? = some y_1 → (decide (y_1.snd ≥ (0 : Int)) = true → ((0 : Int) ≤ (↑x : Int) ∧ (↑x : Int) < (↑it.length : Int)) ∧ (↑x : Int).toNat < it.length ∧ ∀ (y_2 : (Int × Int × Int × Int × Int) × Int), it[(↑x : Int).toNat]? = some y_2 → ((0 : Int) ≤ y_2.snd ∧ y_2.snd < (↑ms.length : Int)) ∧ y_2.snd.toNat < ms.length ∧ ∀ (y_3 : Int), ms[y_2.snd.toNat]? = some y_3 → (((encF (y.fst.fst, y.fst.snd.fst, y.fst.snd.snd.fst, y.fst.snd.snd.snd.fst, y_3)).snd != (0 : Int)) = true → ∃ (x : Int), ∃ (x_1 : Bool), ∃ (x_2 : List ((Int × Int × Int × Int × Int) × Int)), ∃ (x_3 : List Int), ∃ (x_4 : List Int), ((11 : Int) = x ∧ bad = x_1 ∧ it ≍ x_2 ∧ ms ≍ x_3 ∧ x_4 = ([] : List Int) ∧ True) ∧ (x_4, x) = doneR bad it ms ∧ x_1 = bad ∧ x_2 = it ∧ x_3 = ms) ∧ (((encF (y.fst.fst, y.fst.snd.fst, y.fst.snd.snd.fst, y.fst.snd.snd.snd.fst, y_3)).snd != (0 : Int)) = false → ((List.map encW (List.take x (List.map (rpat ms) it))).length + ((encF (y.fst.fst, y.fst.snd.fst, y.fst.snd.snd.fst, y.fst.snd.snd.snd.fst, y_3)).fst :: ([] : List Int)).length) * (8 : Nat) ≤ (140737488355328 : Nat) ∧ ((-9223372036854775808 : Int) ≤ (↑x : Int) + (1 : Int) ∧ (↑x : Int) + (1 : Int) ≤ (9223372036854775807 : Int)) ∧ ∃ (y_4 : Nat), I2 (List.map (rpat ms) it) y_4 ∧ it.length - y_4 < it.length - x ∧ (↑x : Int) + (1 : Int) = (↑y_4 : Int) ∧ bad = bad ∧ it ≍ it ∧ ms ≍ ms ∧ List.map encW (List.take x (List.map (rpat ms) it)) ++ (encF (y.fst.fst, y.fst.snd.fst, y.fst.snd.snd.fst, y.fst.snd.snd.snd.fst, y_3)).fst :: ([] : List Int) ≍ List.map encW (List.take y_4 (List.map (rpat ms) it)) ∧ True)) ∧ (decide (y_1.snd ≥ (0 : Int)) = false → (((encF (y.fst.fst, y.fst.snd.fst, y.fst.snd.snd.fst, y.fst.snd.snd.snd.fst, y.fst.snd.snd.snd.snd)).snd != (0 : Int)) = true → ∃ (x : Int), ∃ (x_1 : Bool), ∃ (x_2 : List ((Int × Int × Int × Int × Int) × Int)), ∃ (x_3 : List Int), ∃ (x_4 : List Int), ((11 : Int) = x ∧ bad = x_1 ∧ it ≍ x_2 ∧ ms ≍ x_3 ∧ x_4 = ([] : List Int) ∧ True) ∧ (x_4, x) = doneR bad it ms ∧ x_1 = bad ∧ x_2 = it ∧ x_3 = ms) ∧ (((encF (y.fst.fst, y.fst.snd.fst, y.fst.snd.snd.fst, y.fst.snd.snd.snd.fst, y.fst.snd.snd.snd.snd)).snd != (0 : Int)) = false → ((List.map encW (List.take x (List.map (rpat ms) it))).length + ((encF (y.fst.fst, y.fst.snd.fst, y.fst.snd.snd.fst, y.fst.snd.snd.snd.fst, y.fst.snd.snd.snd.snd)).fst :: ([] : List Int)).length) * (8 : Nat) ≤ (140737488355328 : Nat) ∧ ((-9223372036854775808 : Int) ≤ (↑x : Int) + (1 : Int) ∧ (↑x : Int) + (1 : Int) ≤ (9223372036854775807 : Int)) ∧ ∃ (y_2 : Nat), I2 (List.map (rpat ms) it) y_2 ∧ it.length - y_2 < it.length - x ∧ (↑x : Int) + (1 : Int) = (↑y_2 : Int) ∧ bad = bad ∧ it ≍ it ∧ ms ≍ ms ∧ List.map encW (List.take x (List.map (rpat ms) it)) ++ (encF (y.fst.fst, y.fst.snd.fst, y.fst.snd.snd.fst, y.fst.snd.snd.snd.fst, y.fst.snd.snd.snd.snd)).fst :: ([] : List Int) ≍ List.map encW (List.take y_2 (List.map (rpat ms) it)) ∧ True))) ∧ (decide ((↑x : Int) < (↑it.length : Int)) = false → (decide ((↑(List.map encW (List.take x (List.map (rpat ms) it))).length : Int) > (4096 : Int)) = true → ∃ (x : Int), ∃ (x_1 : Bool), ∃ (x_2 : List ((Int × Int × Int × Int × Int) × Int)), ∃ (x_3 : List Int), ∃ (x_4 : List Int), ((3 : Int) = x ∧ bad = x_1 ∧ it ≍ x_2 ∧ ms ≍ x_3 ∧ x_4 = ([] : List Int) ∧ True) ∧ (x_4, x) = doneR bad it ms ∧ x_1 = bad ∧ x_2 = it ∧ x_3 = ms) ∧ (decide ((↑(List.map encW (List.take x (List.map (rpat ms) it))).length : Int) > (4096 : Int)) = false → ∃ (x_1 : Int), ∃ (x_2 : Bool), ∃ (x_3 : List ((Int × Int × Int × Int × Int) × Int)), ∃ (x_4 : List Int), ∃ (x_5 : List Int), ((0 : Int) = x_1 ∧ bad = x_2 ∧ it ≍ x_3 ∧ ms ≍ x_4 ∧ List.map encW (List.take x (List.map (rpat ms) it)) ≍ x_5 ∧ True) ∧ (x_5, x_1) = doneR bad it ms ∧ x_2 = bad ∧ x_3 = it ∧ x_4 = ms))))) = _) ?_
  have hp : itOk it ms ∧ it.length ≤ 100000 := hp
  obtain ⟨hi, hl⟩ := hp
  clear hr hh
  have out : ∀ (e : Int) (o : List Int), (o, e) = doneR bad it ms → ∃ (x : Int) (x_1 : Bool) (x_2 : List TN) (x_3 x_4 : List Int), (e = x ∧ bad = x_1 ∧ HEq it x_2 ∧ HEq ms x_3 ∧ HEq o x_4 ∧ True) ∧ (x_4, x) = doneR bad it ms ∧ x_1 = bad ∧ x_2 = it ∧ x_3 = ms := fun e o h => ⟨_, _, _, _, _, ⟨rfl, rfl, HEq.rfl, HEq.rfl, HEq.rfl, trivial⟩, h, rfl, rfl, rfl⟩
  have out0 : ∀ (e : Int), (([] : List Int), e) = doneR bad it ms → ∃ (x : Int) (x_1 : Bool) (x_2 : List TN) (x_3 x_4 : List Int), (e = x ∧ bad = x_1 ∧ HEq it x_2 ∧ HEq ms x_3 ∧ x_4 = ([] : List Int) ∧ True) ∧ (x_4, x) = doneR bad it ms ∧ x_1 = bad ∧ x_2 = it ∧ x_3 = ms := fun e h => ⟨_, _, _, _, _, ⟨rfl, rfl, HEq.rfl, HEq.rfl, rfl, trivial⟩, h, rfl, rfl, rfl⟩
  refine ⟨fun hb => out0 1 (by simp [doneR, hb]), fun hb => ?_⟩
  refine ⟨⟨0, ⟨by omega, by simp [rbare]⟩, rfl, rfl, HEq.rfl, HEq.rfl, trivial⟩, fun k hk => ⟨fun h1 => ?_, fun h1 => ?_⟩⟩
  · simp only [decide_eq_true_eq] at h1
    refine ⟨by omega, by omega, fun t ht => ⟨fun h2 => ⟨by omega, by omega, fun t2 ht2 => ?_⟩, fun h2 => ⟨by omega, k + 1, ⟨by omega, ?_⟩, by omega, by simp, rfl, HEq.rfl, HEq.rfl, trivial⟩⟩⟩
    · rw [ht] at ht2
      cases ht2
      rw [Int.toNat_natCast] at ht
      have := hi t (List.mem_of_getElem? ht)
      simp only [decide_eq_true_eq] at h2
      refine ⟨by omega, by omega, fun v hv => ⟨fun h3 => out0 20 ?_, fun h3 => ⟨by omega, k + 1, ⟨by omega, ?_⟩, by omega, by simp, rfl, HEq.rfl, HEq.rfl, trivial⟩⟩⟩
      · have : rbare ms it = true := rbare_in ht h2 (by rw [getD_of hv]; simpa using h3)
        simp [doneR, hb, this]
      · rw [rbare_succ ht, hk.f, getD_of hv]; simpa using fun _ => h3
    · rw [Int.toNat_natCast] at ht
      rw [rbare_succ ht, hk.f, h2]; rfl
  · simp only [decide_eq_false_iff_not] at h1
    have hkl : k = it.length := by have := hk.le; omega
    subst hkl
    have hf := hk.f
    rw [List.take_length] at hf
    have hd : doneR bad it ms = encs (it.map (rpat ms)) := by simp [doneR, hb, hf]
    refine ⟨⟨0, ⟨by omega, by simp⟩, rfl, rfl, HEq.rfl, HEq.rfl, by simp, trivial⟩, fun k hk => ⟨fun h1 => ?_, fun h1 => ?_⟩⟩
    · simp only [decide_eq_true_eq] at h1
      have step : ∀ i : IN, (it.map (rpat ms))[k]? = some i → (((encF i).2 != 0) = true → ∃ (x : Int) (x_1 : Bool) (x_2 : List TN) (x_3 x_4 : List Int), (11 = x ∧ bad = x_1 ∧ HEq it x_2 ∧ HEq ms x_3 ∧ x_4 = ([] : List Int) ∧ True) ∧ (x_4, x) = doneR bad it ms ∧ x_1 = bad ∧ x_2 = it ∧ x_3 = ms) ∧ (((encF i).2 != 0) = false → ((((it.map (rpat ms)).take k).map encW).length + ((encF i).1 :: ([] : List Int)).length) * 8 ≤ 140737488355328 ∧ (-9223372036854775808 ≤ (k : Int) + 1 ∧ (k : Int) + 1 ≤ 9223372036854775807) ∧ ∃ y, I2 (it.map (rpat ms)) y ∧ it.length - y < it.length - k ∧ (k : Int) + 1 = y ∧ bad = bad ∧ HEq it it ∧ HEq ms ms ∧ HEq (((it.map (rpat ms)).take k).map encW ++ (encF i).1 :: ([] : List Int)) (((it.map (rpat ms)).take y).map encW) ∧ True) := by
        intro i hik
        cases hg : goodF i with
        | false =>
          rw [encF_f hg]
          exact ⟨fun _ => out0 11 (by rw [hd, encs, bad_in hik hg]; rfl), fun h => by simp at h⟩
        | true =>
          rw [encF_t hg]
          refine ⟨fun h => by simp at h, fun _ => ⟨by simp; omega, by omega, k + 1, ⟨by simp; omega, by rw [good_succ hik, hk.g, hg]; rfl⟩, by omega, by simp, rfl, HEq.rfl, HEq.rfl, heq_of_eq ?_, trivial⟩⟩
          rw [List.take_add_one, hik]; simp
      refine ⟨by omega, by omega, fun t ht => ⟨by omega, by omega, fun t2 ht2 => ⟨fun h2 => ⟨by omega, by omega, fun t3 ht3 => ?_⟩, fun h2 => ?_⟩⟩⟩
      · rw [ht] at ht2 ht3
        cases ht2
        cases ht3
        rw [Int.toNat_natCast] at ht
        have := hi t (List.mem_of_getElem? ht)
        simp only [decide_eq_true_eq] at h2
        refine ⟨by omega, by omega, fun v hv => ?_⟩
        have hm : (it.map (rpat ms))[k]? = some (setM t.1 v) := by rw [List.getElem?_map, ht, Option.map_some, rpat, if_pos h2, getD_of hv]
        exact step _ hm
      · rw [ht] at ht2
        cases ht2
        rw [Int.toNat_natCast] at ht
        simp only [decide_eq_false_iff_not] at h2
        have hm : (it.map (rpat ms))[k]? = some t.1 := by rw [List.getElem?_map, ht, Option.map_some, rpat, if_neg h2]
        exact step _ hm
    · simp only [decide_eq_false_iff_not] at h1
      have hle := hk.le
      rw [List.length_map] at hle
      have hkl : k = (it.map (rpat ms)).length := by rw [List.length_map]; omega
      subst hkl
      have hg := hk.g
      rw [List.take_length] at hg
      rw [List.take_length]
      have he : doneR bad it ms = if (it.map (rpat ms)).length > 4096 then ([], 3) else ((it.map (rpat ms)).map encW, 0) := by rw [hd, encs, if_pos hg]
      simp only [List.length_map, decide_eq_true_eq, decide_eq_false_iff_not] at he ⊢
      refine ⟨fun h2 => out0 3 (by rw [he, if_pos (by omega)]), fun h2 => out 0 _ (by rw [he, if_neg (by omega)])⟩
abbrev pUs : PS := (false, .sl shU)
abbrev lpW (x y : List Int) : Nat → Option LoopSp := fun _ => some { X := Nat, sl := fun k => [(0, .one (.rd shU x)), (1, .one (.rd shU y)), (5, .one (vi k))], h := fun _ => [], nx := 0, inv := fun k => k ≤ x.length ∧ x.take k = y.take k, mu := fun k => x.length - k }
theorem v20 : Valid Try.prog 20 (.tot (tS [pUs, pUs] [pB] fun x => eqB x.1 x.2)) := by
  refine tS_ok mixed Tbl_ok M3_ok Try.func20 call20 rfl rfl rfl ?_
  rintro ⟨a, b⟩ hr z rfl
  refine ⟨lpW a b, ?_⟩
  refine Eq.mp (by kernel_rfl : ((((↑(List.length a) : Int) != (↑(List.length b) : Int)) = true → false = eqB a b ∧ True) ∧ (((↑(List.length a) : Int) != (↑(List.length b) : Int)) = false → (∃ (x : Nat), (x ≤ List.length a ∧ List.take x a = List.take x b) ∧ a ≍ a ∧ b ≍ b ∧ (0 : Int) = (↑x : Int) ∧ True) ∧ ∀ (x : Nat), x ≤ List.length a ∧ List.take x a = List.take x b → (decide ((↑x : Int) < (↑(List.length a) : Int)) = true → ((0 : Int) ≤ (↑x : Int) ∧ (↑x : Int) < (↑(List.length a) : Int)) ∧ ∀ (y : Int), a[(↑x : Int).toNat]? = some y → ((0 : Int) ≤ (↑x : Int) ∧ (↑x : Int) < (↑(List.length b) : Int)) ∧ ∀ (y_1 : Int), b[(↑x : Int).toNat]? = some y_1 → ((y != y_1) = true → false = eqB a b ∧ True) ∧ ((y != y_1) = false → ((-9223372036854775808 : Int) ≤ (↑x : Int) + (1 : Int) ∧ (↑x : Int) + (1 : Int) ≤ (9223372036854775807 : Int)) ∧ ∃ (y : Nat), (y ≤ List.length a ∧ List.take y a = List.take y b) ∧ List.length a - y < List.length a - x ∧ a ≍ a ∧ b ≍ b ∧ (↑x : Int) + (1 : Int) = (↑y : Int) ∧ True)) ∧ (decide ((↑x : Int) < (↑(List.length a) : Int)) = false → true = eqB a b ∧ True))) = _) ?_
  have ha : List.length a ≤ 9223372036854775807 := Nat.le_trans hr.1.1 (by unfold maxLen; omega)
  refine ⟨fun h => ⟨(eqB_false.2 (by rintro rfl; simp at h)).symm, trivial⟩, fun h => ⟨⟨0, ⟨by omega, by simp⟩, HEq.rfl, HEq.rfl, rfl, trivial⟩, fun k hk => ⟨fun h1 => ?_, fun h1 => ?_⟩⟩⟩
  · have h : List.length a = List.length b := by
      simp only [bne_eq_false_iff_eq] at h
      exact Int.ofNat.inj h
    simp only [decide_eq_true_eq] at h1
    refine ⟨by omega, fun y hy => ⟨by omega, fun z hz => ⟨fun hne => ⟨(eqB_false.2 ?_).symm, trivial⟩, fun he => ⟨by omega, k + 1, ⟨by omega, take_succ_eq hk.2 ?_⟩, by omega, HEq.rfl, HEq.rfl, rfl, trivial⟩⟩⟩⟩
    · rintro rfl
      rw [hy] at hz
      cases hz
      simp at hne
    · rw [Int.toNat_natCast] at hy hz
      rw [hy, hz]
      have : y = z := by simpa using he
      rw [this]
  · have h : List.length a = List.length b := by
      simp only [bne_eq_false_iff_eq] at h
      exact Int.ofNat.inj h
    simp only [decide_eq_false_iff_not] at h1
    exact ⟨(eqB_true.2 (take_all_eq hk.2 (by omega) (by omega))).symm, trivial⟩
abbrev pNs : PS := (false, .sl shI)
def codeF (l : List IN) : List Int := l.map fun i => (encF i).1
theorem c22 : CallOk Try.prog 22 := ⟨_, Try.func22, by kernel_rfl, by kernel_rfl⟩
abbrev lp22 (l : List IN) : Nat → Option LoopSp := fun _ => some { X := Nat, sl := fun k => [(0, .one (.rd shI l)), (3, .one (.sl 0)), (4, .one (vi k))], h := fun k => [(0, .own 61 shU (codeF (l.take k)))], nx := 1, inv := fun k => k ≤ l.length, mu := fun k => l.length - k }
theorem v22 : Valid Try.prog 22 (.pre (rS [pNs] [pUs] (fun l => List.length l ≤ 100000) (fun l y => y = codeF l))) := by
  refine rS_ok mixed Tbl_ok M3_ok Try.func22 c22 rfl ?_
  intro (l : List IN) hr hp
  refine ⟨lp22 l, ?_⟩
  refine Eq.mp (by kernel_rfl : ((∃ (x : Nat), x ≤ l.length ∧ l ≍ l ∧ (0 : Int) = (↑x : Int) ∧ codeF (List.take x l) = ([] : List Int) ∧ True) ∧ ∀ (x : Nat), x ≤ l.length → (decide ((↑x : Int) < (↑l.length : Int)) = true → ((0 : Int) ≤ (↑x : Int) ∧ (↑x : Int) < (↑l.length : Int)) ∧ ∀ (y : Int × Int × Int × Int × Int), l[(↑x : Int).toNat]? = some y → ((codeF (List.take x l)).length + ((encF (y.fst, y.snd.fst, y.snd.snd.fst, y.snd.snd.snd.fst, y.snd.snd.snd.snd)).fst :: ([] : List Int)).length) * (8 : Nat) ≤ (140737488355328 : Nat) ∧ ((-9223372036854775808 : Int) ≤ (↑x : Int) + (1 : Int) ∧ (↑x : Int) + (1 : Int) ≤ (9223372036854775807 : Int)) ∧ ∃ (y_1 : Nat), y_1 ≤ l.length ∧ l.length - y_1 < l.length - x ∧ l ≍ l ∧ (↑x : Int) + (1 : Int) = (↑y_1 : Int) ∧ codeF (List.take x l) ++ (encF (y.fst, y.snd.fst, y.snd.snd.fst, y.snd.snd.snd.fst, y.snd.snd.snd.snd)).fst :: ([] : List Int) ≍ codeF (List.take y_1 l) ∧ True) ∧ (decide ((↑x : Int) < (↑l.length : Int)) = false → ∃ (y : Tup (pUs :: ([] : List PS))), y = codeF l ∧ codeF (List.take x l) ≍ y ∧ True)) = _) ?_
  have hp : l.length ≤ 100000 := hp
  refine ⟨⟨0, by omega, HEq.rfl, rfl, by simp [codeF], trivial⟩, fun k hk => ⟨fun h1 => ?_, fun h1 => ?_⟩⟩
  · simp only [decide_eq_true_eq] at h1
    refine ⟨by omega, fun i hi => ⟨by simp [codeF]; omega, by omega, k + 1, by omega, by omega, HEq.rfl, by simp, heq_of_eq ?_, trivial⟩⟩
    rw [Int.toNat_natCast] at hi
    rw [List.take_add_one, hi]; simp [codeF]
  · simp only [decide_eq_false_iff_not] at h1
    rw [List.take_of_length_le (by omega)]
    exact ⟨_, rfl, HEq.rfl, trivial⟩
end Go.Proofs.Yteddnnljmdjfbaa.V
