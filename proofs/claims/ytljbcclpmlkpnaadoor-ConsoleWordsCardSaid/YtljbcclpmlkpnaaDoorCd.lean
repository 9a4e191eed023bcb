import Derived.KernelRfl
import Derived.Test.YtljbcclpmlkpnaaDoorCc
namespace Go.Proofs.YtljbcclpmlkpnaaDoor.V
open Go.RowKit Go.Proofs.YtljbcclpmlkpnaaDoor
set_option linter.unusedSimpArgs false
abbrev pN : PS := (true, .pair (.int .i64) .bool)
def frm (b : Bool) : Nat := if b = true then 1 else 0
structure I25 (s : ByteArray) (x : Nat × Nat) : Prop where
  i : x.1 ≤ s.size
  u : x.2 ≤ 9223372036854775809
  e : readL 0 (magL s.data.toList) = readL x.2 (s.data.toList.drop x.1)
  n : magL s.data.toList ≠ [] ∧ s.size ≤ 20
abbrev k25 (s : ByteArray) (X : Type) (sl : X → List (Nat × Vl)) (inv : X → Prop) (mu : X → Nat) (cut : Bool) : Option LoopSp := some { X := X, sl := fun x => (0, .one (.val (.string s))) :: (2, .one (.ptr 0 0)) :: (3, .one (vi (frm (negB s.data.toList)))) :: sl x, h := fun _ => [(0, .blk [.val (.int .i64 0), .val (.bool false)] 66)], nx := 1, inv := inv, mu := mu, cut := cut }
abbrev lp25 (s : ByteArray) : Nat → Option LoopSp := fun r => match r with
  | 4 => k25 s Unit (fun _ => []) (fun _ => True) (fun _ => 0) true
  | 8 => k25 s (Nat × Nat) (fun x => [(4, .one (.val (.int .u64 x.2))), (5, .one (vi x.1))]) (fun x => I25 s x) (fun x => s.size - x.1) false
  | _ => none
theorem mag_drop (l : List UInt8) : magL l = l.drop (frm (negB l)) := by
  unfold magL frm
  cases l with
  | nil => rfl
  | cons c r => cases h : negB (c :: r) <;> simp
theorem frm_le (l : List UInt8) : frm (negB l) ≤ l.length := by
  cases l with
  | nil => exact Nat.zero_le _
  | cons c r => unfold frm; split <;> simp
theorem read_none {s : ByteArray} (h : readE s.data.toList = none) : readB s = (0, false) := by rw [readB, h]
theorem read_bad {s : ByteArray} (h1 : ¬ (magL s.data.toList = [] ∨ 20 < s.data.toList.length)) (h : readL 0 (magL s.data.toList) = none) : readB s = (0, false) := read_none (by rw [readE, if_neg h1, h])
theorem readL_no {u : Nat} {c : UInt8} {r : List UInt8} (h : ¬ (48 ≤ c.toNat ∧ c.toNat ≤ 57 ∧ u ≤ 922337203685477580)) : readL u (c :: r) = none := by rw [readL, if_neg h]
theorem v25 : Valid Tryd.prog 25 (.tot (tS [pS] [pN] readB)) := by
  refine tS_ok mixed Tbl_ok L8_ok Tryd.func25 call25 rfl rfl rfl ?_
  rintro (s : ByteArray) hr z hz
  refine ⟨lp25 s, ?_⟩
  refine Eq.mp (by kernel_rfl : (((decide ((↑s.size : Int) > (0 : Int)) = true → ((0 : Int) ≤ (0 : Int) ∧ (0 : Int) < (↑s.size : Int)) ∧ ∀ (y : UInt8), s[Int.toNat (0 : Int)]? = some y → (((↑y.toNat : Int) == (45 : Int)) = true → ∃ (y : Unit), True ∧ Value.string s = Value.string s ∧ (1 : Int) = (↑(frm (negB s.data.toList)) : Int) ∧ (0 : Int) = (0 : Int) ∧ false = false ∧ True) ∧ (((↑y.toNat : Int) == (45 : Int)) = false → ∃ (y : Unit), True ∧ Value.string s = Value.string s ∧ (0 : Int) = (↑(frm (negB s.data.toList)) : Int) ∧ (0 : Int) = (0 : Int) ∧ false = false ∧ True)) ∧ (decide ((↑s.size : Int) > (0 : Int)) = false → ∃ (y : Unit), True ∧ Value.string s = Value.string s ∧ (0 : Int) = (↑(frm (negB s.data.toList)) : Int) ∧ (0 : Int) = (0 : Int) ∧ false = false ∧ True)) ∧ ∀ (x : Unit), True → (((↑s.size : Int) == (↑(frm (negB s.data.toList)) : Int) || decide ((↑s.size : Int) > (20 : Int))) = true → (0 : Int) = z.fst ∧ false = z.snd ∧ True) ∧ (((↑s.size : Int) == (↑(frm (negB s.data.toList)) : Int) || decide ((↑s.size : Int) > (20 : Int))) = false → (∃ (x : Nat × Nat), I25 s x ∧ Value.string s = Value.string s ∧ (↑(frm (negB s.data.toList)) : Int) = (↑(frm (negB s.data.toList)) : Int) ∧ (0 : Int) = (↑x.snd : Int) ∧ (↑(frm (negB s.data.toList)) : Int) = (↑x.fst : Int) ∧ (0 : Int) = (0 : Int) ∧ false = false ∧ True) ∧ ∀ (x : Nat × Nat), I25 s x → (decide ((↑x.fst : Int) < (↑s.size : Int)) = true → ((0 : Int) ≤ (↑x.fst : Int) ∧ (↑x.fst : Int) < (↑s.size : Int)) ∧ ∀ (y : UInt8), s[(↑x.fst : Int).toNat]? = some y → (decide ((↑y.toNat : Int) < (48 : Int)) = true → (0 : Int) = z.fst ∧ false = z.snd ∧ True) ∧ (decide ((↑y.toNat : Int) < (48 : Int)) = false → ((0 : Int) ≤ (↑x.fst : Int) ∧ (↑x.fst : Int) < (↑s.size : Int)) ∧ ∀ (y : UInt8), s[(↑x.fst : Int).toNat]? = some y → ((decide ((↑y.toNat : Int) > (57 : Int)) || decide ((↑x.snd : Int) > (922337203685477580 : Int))) = true → (0 : Int) = z.fst ∧ false = z.snd ∧ True) ∧ ((decide ((↑y.toNat : Int) > (57 : Int)) || decide ((↑x.snd : Int) > (922337203685477580 : Int))) = false → ((0 : Int) ≤ (↑x.fst : Int) ∧ (↑x.fst : Int) < (↑s.size : Int)) ∧ ∀ (y : UInt8), s[(↑x.fst : Int).toNat]? = some y → ((-9223372036854775808 : Int) ≤ (↑x.fst : Int) + (1 : Int) ∧ (↑x.fst : Int) + (1 : Int) ≤ (9223372036854775807 : Int)) ∧ ∃ (y_1 : Nat × Nat), I25 s y_1 ∧ s.size - y_1.fst < s.size - x.fst ∧ Value.string s = Value.string s ∧ (↑(frm (negB s.data.toList)) : Int) = (↑(frm (negB s.data.toList)) : Int) ∧ IntKind.u64.wrap (IntKind.u64.wrap ((↑x.snd : Int) * (10 : Int)) + IntKind.u8.wrap ((↑y.toNat : Int) - (48 : Int))) = (↑y_1.snd : Int) ∧ (↑x.fst : Int) + (1 : Int) = (↑y_1.fst : Int) ∧ (0 : Int) = (0 : Int) ∧ false = false ∧ True))) ∧ (decide ((↑x.fst : Int) < (↑s.size : Int)) = false → ((decide ((↑x.snd : Int) > (9223372036854775808 : Int)) || (↑(frm (negB s.data.toList)) : Int) == (0 : Int) && (↑x.snd : Int) == (9223372036854775808 : Int)) = true → (0 : Int) = z.fst ∧ false = z.snd ∧ True) ∧ ((decide ((↑x.snd : Int) > (9223372036854775808 : Int)) || (↑(frm (negB s.data.toList)) : Int) == (0 : Int) && (↑x.snd : Int) == (9223372036854775808 : Int)) = false → (((↑(frm (negB s.data.toList)) : Int) == (1 : Int)) = true → IntKind.i64.wrap ((0 : Int) - IntKind.i64.wrap (↑x.snd : Int)) = z.fst ∧ ((decB (IntKind.i64.wrap ((0 : Int) - IntKind.i64.wrap (↑x.snd : Int)))).toList == s.toList) = z.snd ∧ True) ∧ (((↑(frm (negB s.data.toList)) : Int) == (1 : Int)) = false → IntKind.i64.wrap (↑x.snd : Int) = z.fst ∧ ((decB (IntKind.i64.wrap (↑x.snd : Int))).toList == s.toList) = z.snd ∧ True))))) = _) ?_
  have hz : readB s = z := hz
  subst hz
  have hsz : s.data.toList.length = s.size := size_list s
  have hf := frm_le s.data.toList
  have h0 : ∀ y : UInt8, s[Int.toNat 0]? = some y → negB s.data.toList = (y.toNat == 45) := fun y hy => by
    have := get_list hy
    cases hl : s.data.toList with
    | nil => rw [hl] at this; cases this
    | cons c r => rw [hl] at this; cases this; rfl
  refine ⟨⟨fun h => ⟨by simp at h; omega, fun y hy => ⟨fun h2 => ⟨(), trivial, rfl, ?_, rfl, rfl, trivial⟩, fun h2 => ⟨(), trivial, rfl, ?_, rfl, rfl, trivial⟩⟩⟩, fun h => ⟨(), trivial, rfl, ?_, rfl, rfl, trivial⟩⟩, fun _ _ => ⟨fun h => ?_, fun h => ⟨⟨(frm (negB s.data.toList), 0), ?_, rfl, rfl, rfl, rfl, rfl, rfl, trivial⟩, ?_⟩⟩⟩
  · rw [h0 y hy, show (y.toNat == 45) = true by simp only [beq_iff_eq] at h2 ⊢; omega]; rfl
  · rw [h0 y hy, show (y.toNat == 45) = false by simp only [beq_eq_false_iff_ne, ne_eq] at h2 ⊢; omega]; rfl
  · have : s.data.toList = [] := List.length_eq_zero_iff.1 (by simp only [decide_eq_false_iff_not] at h; omega)
    rw [this]; rfl
  · have : readB s = (0, false) := read_none (by
      rw [readE, if_pos]
      simp only [Bool.or_eq_true, beq_iff_eq, decide_eq_true_eq] at h
      rw [mag_drop, List.drop_eq_nil_iff]
      omega)
    rw [this]; exact ⟨rfl, rfl, trivial⟩
  · simp only [Bool.or_eq_false_iff, beq_eq_false_iff_ne, ne_eq, decide_eq_false_iff_not] at h
    refine ⟨by dsimp only; omega, Nat.zero_le _, by rw [mag_drop], ?_, by omega⟩
    rw [mag_drop, ne_eq, List.drop_eq_nil_iff]
    omega
  · rintro ⟨i, u⟩ hx
    have hi : i ≤ s.size := hx.i
    have hu : u ≤ 9223372036854775809 := hx.u
    have he := hx.e
    have hn : ¬ (magL s.data.toList = [] ∨ 20 < s.data.toList.length) := by
      rintro (h1 | h1)
      · exact hx.n.1 h1
      · have := hx.n.2; omega
    dsimp only at he ⊢
    have bad : ∀ y : UInt8, s[((i : Int)).toNat]? = some y → ¬ (48 ≤ y.toNat ∧ y.toNat ≤ 57 ∧ u ≤ 922337203685477580) → readB s = (0, false) := fun y hy hb => by
      rw [Int.toNat_natCast] at hy
      have hy := get_list hy
      have hlt := (List.getElem?_eq_some_iff.1 hy).1
      rw [List.drop_eq_getElem_cons hlt] at he
      rw [List.getElem?_eq_getElem hlt] at hy
      rw [Option.some.inj hy, readL_no hb] at he
      exact read_bad hn he
    refine ⟨fun h1 => ?_, fun h1 => ?_⟩
    · have h1 : i < s.size := by simp only [decide_eq_true_eq] at h1; omega
      refine ⟨by omega, fun y hy => ⟨fun h2 => ?_, fun h2 => ⟨by omega, fun y2 hy2 => ?_⟩⟩⟩
      · rw [bad y hy (by simp only [decide_eq_true_eq] at h2; omega)]; exact ⟨rfl, rfl, trivial⟩
      · have : y2 = y := by rw [hy] at hy2; exact (Option.some.inj hy2).symm
        subst this
        refine ⟨fun h3 => ?_, fun h3 => ⟨by omega, fun y3 hy3 => ⟨by omega, (i + 1, u * 10 + (y2.toNat - 48)), ?_, by dsimp only; omega, rfl, rfl, ?_, by simp, rfl, rfl, trivial⟩⟩⟩
        · rw [bad y2 hy (by simp only [Bool.or_eq_true, decide_eq_true_eq] at h3; omega)]; exact ⟨rfl, rfl, trivial⟩
        · simp only [decide_eq_false_iff_not, Bool.or_eq_false_iff] at h2 h3
          refine ⟨h1, by dsimp only; omega, ?_, hx.n⟩
          rw [Int.toNat_natCast] at hy
          have hy := get_list hy
          have hlt := (List.getElem?_eq_some_iff.1 hy).1
          rw [List.drop_eq_getElem_cons hlt] at he
          rw [List.getElem?_eq_getElem hlt] at hy
          rw [he, Option.some.inj hy, readL, if_pos (by omega)]
        · have : y3 = y2 := by rw [hy] at hy3; exact (Option.some.inj hy3).symm
          subst this
          simp only [decide_eq_false_iff_not, Bool.or_eq_false_iff] at h2 h3
          have hlt : y3.toNat < 256 := y3.toNat_lt
          have e1 : IntKind.u8.wrap ((y3.toNat : Int) - 48) = (y3.toNat : Int) - 48 := by rw [IntKind.wrap_u8]; omega
          rw [e1, IntKind.wrap_u64, IntKind.wrap_u64]
          omega
    · have h1 : i = s.size := by simp only [decide_eq_false_iff_not] at h1; omega
      subst h1
      rw [show s.data.toList.drop s.size = [] from List.drop_eq_nil_iff.2 (by omega)] at he
      have he : readL 0 (magL s.data.toList) = some u := he
      refine ⟨fun h2 => ?_, fun h2 => ?_⟩
      · have : readB s = (0, false) := read_none (by
          rw [readE, if_neg hn, he]
          dsimp only
          rw [if_pos]
          simp only [Bool.or_eq_true, Bool.and_eq_true, decide_eq_true_eq, beq_iff_eq, frm] at h2
          cases hb : negB s.data.toList <;> rw [hb] at h2 <;> simp at h2 ⊢ <;> omega)
        rw [this]; exact ⟨rfl, rfl, trivial⟩
      · have h3 : ¬ (9223372036854775808 < u ∨ (negB s.data.toList = false ∧ u = 9223372036854775808)) := by
          simp only [Bool.or_eq_false_iff, Bool.and_eq_false_iff, decide_eq_false_iff_not, beq_eq_false_iff_ne, ne_eq, frm] at h2
          cases hb : negB s.data.toList <;> rw [hb] at h2 <;> simp at h2 ⊢ <;> omega
        have hr : readB s = ((if negB s.data.toList = true then -(u : Int) else u), ((decB (if negB s.data.toList = true then -(u : Int) else u)).data.toList == s.data.toList)) := by
          rw [readB, readE, if_neg hn, he]
          dsimp only
          rw [if_neg h3]
        rw [hr, toList_data, toList_data, toList_data]
        refine ⟨fun h4 => ?_, fun h4 => ?_⟩
        · have hb : negB s.data.toList = true := by
            cases hb : negB s.data.toList with
            | true => rfl
            | false => rw [hb] at h4; cases h4
          rw [hb]
          have e : IntKind.i64.wrap (0 - IntKind.i64.wrap (u : Int)) = -(u : Int) := by rw [IntKind.wrap_i64, IntKind.wrap_i64]; omega
          rw [e]; exact ⟨rfl, rfl, trivial⟩
        · have hb : negB s.data.toList = false := by
            cases hb : negB s.data.toList with
            | false => rfl
            | true => rw [hb] at h4; cases h4
          rw [hb]
          have e : IntKind.i64.wrap (u : Int) = (u : Int) := by
            rw [hb] at h3
            rw [IntKind.wrap_i64]; simp at h3; omega
          rw [e]; exact ⟨rfl, rfl, trivial⟩
abbrev L9 : List (Nat × Spec) := (25, .tot (tS [pS] [pN] readB)) :: L8
theorem L9_all : ∀ p ∈ L9, Valid Tryd.prog p.1 p.2 := vcons v25 L8_all
theorem L9_ok : ∀ f S, spL L9 f = some S → Valid Tryd.prog f S := spL_ok L9_all
end Go.Proofs.YtljbcclpmlkpnaaDoor.V
