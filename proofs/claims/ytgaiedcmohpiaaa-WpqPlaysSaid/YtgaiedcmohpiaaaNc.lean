import Derived.KernelRfl
import Derived.Test.YtgaiedcmohpiaaaNb
namespace Go.Proofs.Ytgaiedcmohpiaaa.V
open Go.RowKit Go.Proofs.Ytgaiedcmohpiaaa
set_option linter.unusedSimpArgs false
def failD (vol : Int) (ls : List LN) : List LN := List.replicate vol.toNat Z8 ++ ls.drop vol.toNat
def qfail1 : PT where
  ps := [.one (.p 0 0)]
  rg := quR
  na := 4
  rs := []
  out := quN
  nx := 5
  pre := fun (_, vol, es, ls, _) => qIn es ls.length ∧ 0 ≤ vol ∧ vol ≤ ls.length
  post := fun (room, vol, es, ls, _) (room', vol', es', ls', _) => room' = room ∧ vol' = vol ∧ es' = [] ∧ ls' = failD vol (qimg es ls)
def qfail2 : PT where
  ps := [.one .nil]
  rg := []
  na := 0
  rs := []
  out := []
  nx := 0
  pre := fun _ => True
  post := fun _ _ => True
abbrev lp18 (room vol : Int) (es : List EN) (ls : List LN) : Nat → Option LoopSp := fun _ => some { X := Nat, sl := fun k => [(0, .one (.ptr 0 0)), (9, .one (.sl 2)), (10, .one (vi es.length)), (11, .one (vi k))], h := fun k => quH room vol es (qimg (es.take k) ls), nx := 4, inv := fun k => k ≤ es.length, mu := fun k => es.length - k }
theorem v18 : Valid Try.prog 18 (.full (callsP [qfail1, qfail2])) := by
  refine valid_Ps mixed Tbl_ok L3_ok Try.func18 call18 ⟨?a, ?b, trivial⟩
  case a =>
    intro (room : Int) (vol : Int) (es : List EN) (ls : List LN) hp hr hh
    refine ⟨lp18 room vol es ls, ?_⟩
    refine Eq.mp (by kernel_rfl : ((∃ (x : Nat), x ≤ es.length ∧ (↑es.length : Int) = (↑es.length : Int) ∧ (0 : Int) = (↑x : Int) ∧ room = room ∧ vol = vol ∧ es ≍ es ∧ ls ≍ qimg (List.take x es) ls ∧ True) ∧ ∀ (x : Nat), x ≤ es.length → (decide ((↑x : Int) < (↑es.length : Int)) = true → ((0 : Int) ≤ (↑x : Int) ∧ (↑x : Int) < (↑es.length : Int)) ∧ (↑x : Int).toNat < es.length ∧ ∀ (y : Int × List Int), es[(↑x : Int).toNat]? = some y → True ∧ ∀ (x_1 x_2 : Int) (x_3 : List (List Int)), x_1 = mayD (qimg (List.take x es) ls).length y.fst ∧ x_2 = vol ∧ x_3 = wrD (qimg (List.take x es) ls) y.fst y.snd → ((-9223372036854775808 : Int) ≤ (↑x : Int) + (1 : Int) ∧ (↑x : Int) + (1 : Int) ≤ (9223372036854775807 : Int)) ∧ ∃ (y : Nat), y ≤ es.length ∧ es.length - y < es.length - x ∧ (↑es.length : Int) = (↑es.length : Int) ∧ (↑x : Int) + (1 : Int) = (↑y : Int) ∧ room = room ∧ x_2 = vol ∧ es ≍ es ∧ x_3 ≍ qimg (List.take y es) ls ∧ True) ∧ (decide ((↑x : Int) < (↑es.length : Int)) = false → ((0 : Int) ≤ (0 : Int) ∧ (0 : Int) ≤ (↑(List.take (0 : Nat) es ++ List.replicate es.length ((0 : Int), List.replicate (8 : Nat) (0 : Int)) ++ List.drop ((0 : Nat) + es.length) es).length : Int)) ∧ (0 : Nat) + Int.toNat (0 : Int) ≤ (List.take (0 : Nat) es ++ List.replicate es.length ((0 : Int), List.replicate (8 : Nat) (0 : Int)) ++ List.drop ((0 : Nat) + es.length) es).length ∧ ((0 : Int) ≤ vol ∧ vol ≤ (↑(qimg (List.take x es) ls).length : Int)) ∧ ∀ (x_1 : Int) (x_2 : List (List Int)), x_1 = vol ∧ x_2 = List.replicate vol.toNat Z8 ++ List.drop vol.toNat (qimg (List.take x es) ls) → ∃ (x : Int), ∃ (x_3 : Int), ∃ (x_4 : List (Int × List Int)), ∃ (x_5 : List (List Int)), (room = x ∧ x_1 = x_3 ∧ List.take (Int.toNat (0 : Int)) (List.drop (0 : Nat) (List.take (0 : Nat) es ++ List.replicate es.length ((0 : Int), List.replicate (8 : Nat) (0 : Int)) ++ List.drop ((0 : Nat) + es.length) es)) ≍ x_4 ∧ x_2 ≍ x_5 ∧ True) ∧ x = room ∧ x_3 = vol ∧ x_4 = ([] : List (Int × List Int)) ∧ x_5 = failD vol (qimg es ls))) = _) ?_
    have hp : qIn es ls.length ∧ 0 ≤ vol ∧ vol ≤ ls.length := hp
    have hl : es.length ≤ maxLen := hh.2.2.1.1
    unfold maxLen at hl
    refine ⟨⟨0, by omega, rfl, rfl, rfl, rfl, HEq.rfl, HEq.rfl, trivial⟩, fun k hk => ⟨fun h1 => ?_, fun h1 => ?_⟩⟩
    · simp only [decide_eq_true_eq] at h1
      refine ⟨by omega, by omega, fun y hy => ⟨trivial, ?_⟩⟩
      rw [Int.toNat_natCast] at hy
      have hy2 := hp.1 y (List.mem_of_getElem? hy)
      rintro _ (vol : Int) (l1 : List LN) ⟨rfl, rfl, rfl⟩
      refine ⟨by omega, k + 1, by omega, by omega, rfl, rfl, rfl, rfl, HEq.rfl, ?_, trivial⟩
      rw [qimg_take hy, wrD_in (by rw [qimg_len]; exact hy2)]
    · simp only [decide_eq_false_iff_not] at h1
      rw [qimg_all (by omega), qimg_len]
      refine ⟨⟨by omega, by omega⟩, Nat.zero_le _, hp.2, ?_⟩
      rintro (vol : Int) (l1 : List LN) ⟨rfl, rfl⟩
      exact ⟨_, _, _, _, ⟨rfl, rfl, HEq.rfl, HEq.rfl, trivial⟩, rfl, rfl, rfl, rfl⟩
  case b =>
    intro hp hr hh
    refine ⟨noLoop, ?_⟩
    refine Eq.mp (by kernel_rfl : (True ∧ True) = _) ?_
    exact ⟨trivial, trivial⟩
abbrev pLs : PS := (false, .sl shW)
abbrev pIs : PS := (false, .sl (.int .i64))
abbrev pB : PS := (false, .bool)
abbrev lp16 (x y : List LN) : Nat → Option LoopSp := fun _ => some { X := Nat, sl := fun k => [(0, .one (.rd shW x)), (1, .one (.rd shW y)), (5, .one (vi k))], h := fun _ => [], nx := 0, inv := fun k => k ≤ x.length ∧ x.take k = y.take k, mu := fun k => x.length - k }
theorem v16 : Valid Try.prog 16 (.tot (tS [pLs, pLs] [pB] fun x => eqB x.1 x.2)) := by
  refine tS_ok mixed Tbl_ok L3_ok Try.func16 call16 rfl rfl rfl ?_
  rintro ⟨a, b⟩ hr z rfl
  refine ⟨lp16 a b, ?_⟩
  refine Eq.mp (by kernel_rfl : ((((↑(List.length a) : Int) != (↑(List.length b) : Int)) = true → false = eqB a b ∧ True) ∧ (((↑(List.length a) : Int) != (↑(List.length b) : Int)) = false → (∃ (x : Nat), (x ≤ List.length a ∧ List.take x a = List.take x b) ∧ a ≍ a ∧ b ≍ b ∧ (0 : Int) = (↑x : Int) ∧ True) ∧ ∀ (x : Nat), x ≤ List.length a ∧ List.take x a = List.take x b → (decide ((↑x : Int) < (↑(List.length a) : Int)) = true → ((0 : Int) ≤ (↑x : Int) ∧ (↑x : Int) < (↑(List.length a) : Int)) ∧ ∀ (y : List Int), a[(↑x : Int).toNat]? = some y → ((0 : Int) ≤ (↑x : Int) ∧ (↑x : Int) < (↑(List.length b) : Int)) ∧ ∀ (y_1 : List Int), b[(↑x : Int).toNat]? = some y_1 → ((!y == y_1) = true → false = eqB a b ∧ True) ∧ ((!y == y_1) = false → ((-9223372036854775808 : Int) ≤ (↑x : Int) + (1 : Int) ∧ (↑x : Int) + (1 : Int) ≤ (9223372036854775807 : Int)) ∧ ∃ (y : Nat), (y ≤ List.length a ∧ List.take y a = List.take y b) ∧ List.length a - y < List.length a - x ∧ a ≍ a ∧ b ≍ b ∧ (↑x : Int) + (1 : Int) = (↑y : Int) ∧ True)) ∧ (decide ((↑x : Int) < (↑(List.length a) : Int)) = false → true = eqB a b ∧ True))) = _) ?_
  have ha : List.length a ≤ 9223372036854775807 := Nat.le_trans hr.1.1 (by unfold maxLen; omega)
  refine ⟨fun h => ⟨(eqB_false.2 (by rintro rfl; simp at h)).symm, trivial⟩, fun h => ⟨⟨0, ⟨by omega, by simp⟩, HEq.rfl, HEq.rfl, rfl, trivial⟩, fun k hk => ⟨fun h1 => ?_, fun h1 => ?_⟩⟩⟩
  · have h : List.length a = List.length b := by
      simp only [bne_eq_false_iff_eq] at h
      exact Int.ofNat.inj h
    simp only [decide_eq_true_eq] at h1
    refine ⟨by omega, fun y hy => ⟨by omega, fun z hz => ⟨fun hne => ⟨(eqB_false.2 ?_).symm, trivial⟩, fun he => ⟨by omega, k + 1, ⟨by omega, take_succ_eq hk.2 ?_⟩, by omega, HEq.rfl, HEq.rfl, rfl, trivial⟩⟩⟩⟩
    · rintro rfl
      rw [hy] at hz
      cases hz
      simp at hne
    · rw [Int.toNat_natCast] at hy hz
      rw [hy, hz]
      have : y = z := by simpa using he
      rw [this]
  · have h : List.length a = List.length b := by
      simp only [bne_eq_false_iff_eq] at h
      exact Int.ofNat.inj h
    simp only [decide_eq_false_iff_not] at h1
    exact ⟨(eqB_true.2 (take_all_eq hk.2 (by omega) (by omega))).symm, trivial⟩
abbrev lp29 (x y : List Int) : Nat → Option LoopSp := fun _ => some { X := Nat, sl := fun k => [(0, .one (.rd (.int .i64) x)), (1, .one (.rd (.int .i64) y)), (5, .one (vi k))], h := fun _ => [], nx := 0, inv := fun k => k ≤ x.length ∧ x.take k = y.take k, mu := fun k => x.length - k }
theorem v29 : Valid Try.prog 29 (.tot (tS [pIs, pIs] [pB] fun x => eqB x.1 x.2)) := by
  refine tS_ok mixed Tbl_ok L3_ok Try.func29 call29 rfl rfl rfl ?_
  rintro ⟨a, b⟩ hr z rfl
  refine ⟨lp29 a b, ?_⟩
  refine Eq.mp (by kernel_rfl : ((((↑(List.length a) : Int) != (↑(List.length b) : Int)) = true → false = eqB a b ∧ True) ∧ (((↑(List.length a) : Int) != (↑(List.length b) : Int)) = false → (∃ (x : Nat), (x ≤ List.length a ∧ List.take x a = List.take x b) ∧ a ≍ a ∧ b ≍ b ∧ (0 : Int) = (↑x : Int) ∧ True) ∧ ∀ (x : Nat), x ≤ List.length a ∧ List.take x a = List.take x b → (decide ((↑x : Int) < (↑(List.length a) : Int)) = true → ((0 : Int) ≤ (↑x : Int) ∧ (↑x : Int) < (↑(List.length a) : Int)) ∧ ∀ (y : Int), a[(↑x : Int).toNat]? = some y → ((0 : Int) ≤ (↑x : Int) ∧ (↑x : Int) < (↑(List.length b) : Int)) ∧ ∀ (y_1 : Int), b[(↑x : Int).toNat]? = some y_1 → ((y != y_1) = true → false = eqB a b ∧ True) ∧ ((y != y_1) = false → ((-9223372036854775808 : Int) ≤ (↑x : Int) + (1 : Int) ∧ (↑x : Int) + (1 : Int) ≤ (9223372036854775807 : Int)) ∧ ∃ (y : Nat), (y ≤ List.length a ∧ List.take y a = List.take y b) ∧ List.length a - y < List.length a - x ∧ a ≍ a ∧ b ≍ b ∧ (↑x : Int) + (1 : Int) = (↑y : Int) ∧ True)) ∧ (decide ((↑x : Int) < (↑(List.length a) : Int)) = false → true = eqB a b ∧ True))) = _) ?_
  have ha : List.length a ≤ 9223372036854775807 := Nat.le_trans hr.1.1 (by unfold maxLen; omega)
  refine ⟨fun h => ⟨(eqB_false.2 (by rintro rfl; simp at h)).symm, trivial⟩, fun h => ⟨⟨0, ⟨by omega, by simp⟩, HEq.rfl, HEq.rfl, rfl, trivial⟩, fun k hk => ⟨fun h1 => ?_, fun h1 => ?_⟩⟩⟩
  · have h : List.length a = List.length b := by
      simp only [bne_eq_false_iff_eq] at h
      exact Int.ofNat.inj h
    simp only [decide_eq_true_eq] at h1
    refine ⟨by omega, fun y hy => ⟨by omega, fun z hz => ⟨fun hne => ⟨(eqB_false.2 ?_).symm, trivial⟩, fun he => ⟨by omega, k + 1, ⟨by omega, take_succ_eq hk.2 ?_⟩, by omega, HEq.rfl, HEq.rfl, rfl, trivial⟩⟩⟩⟩
    · rintro rfl
      rw [hy] at hz
      cases hz
      simp at hne
    · rw [Int.toNat_natCast] at hy hz
      rw [hy, hz]
      have : y = z := by simpa using he
      rw [this]
  · have h : List.length a = List.length b := by
      simp only [bne_eq_false_iff_eq] at h
      exact Int.ofNat.inj h
    simp only [decide_eq_false_iff_not] at h1
    exact ⟨(eqB_true.2 (take_all_eq hk.2 (by omega) (by omega))).symm, trivial⟩
end Go.Proofs.Ytgaiedcmohpiaaa.V
