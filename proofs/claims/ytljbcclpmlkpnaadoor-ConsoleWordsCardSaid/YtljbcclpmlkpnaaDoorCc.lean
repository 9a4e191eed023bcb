import Derived.KernelRfl
import Derived.Test.YtljbcclpmlkpnaaDoorCb
import Derived.Test.YtljbcclpmlkpnaaDoorWo
namespace Go.Proofs.YtljbcclpmlkpnaaDoor.V
open Go.RowKit Go.Proofs.YtljbcclpmlkpnaaDoor
set_option linter.unusedSimpArgs false
abbrev WX := List ByteArray × Nat × Nat
structure I17 (s : ByteArray) (x : WX) : Prop where
  ft : x.2.1 ≤ x.2.2
  ps : x.2.2 ≤ s.size
  nb : noB s x.2.1 x.2.2
  wd : wd s = x.1 ++ (cutL (s.data.toList.drop x.2.1)).map mkW
  ln : x.1.length ≤ x.2.1
structure O17 (s : ByteArray) (x : WX) : Prop where
  ps : x.2.2 = s.size + 1
  wd : wd s = x.1
  ln : x.1.length ≤ s.size + 1
theorem I17.zero (s : ByteArray) : I17 s ([], 0, 0) := ⟨Nat.le_refl _, Nat.zero_le _, fun j h1 h2 => by dsimp only at h2; omega, rfl, Nat.zero_le _⟩
theorem I17.blank {s : ByteArray} {x : WX} (h : I17 s x) (hb : s.data.toList[x.2.2]? = some 32) : I17 s (x.1 ++ [s.extract x.2.1 x.2.2], x.2.2 + 1, x.2.2 + 1) := by
  have hlt := (List.getElem?_eq_some_iff.1 hb).1
  rw [size_list] at hlt
  refine ⟨Nat.le_refl _, hlt, fun j h1 h2 => by dsimp only at h1 h2; omega, ?_, ?_⟩
  · rw [h.wd, wd_at h.ft h.nb hb, List.append_assoc]; rfl
  · have := h.ln; have := h.ft
    simp only [List.length_append, List.length_singleton]; omega
theorem i17_fin {s : ByteArray} {x : WX} (h : I17 s x) (he : x.2.2 = s.size) : wd s = x.1 ++ [s.extract x.2.1 s.size] := by
  have hn := h.nb
  rw [he] at hn
  rw [h.wd, wd_end hn]
theorem get_list {s : ByteArray} {i : Nat} {y : UInt8} (h : s[i]? = some y) : s.data.toList[i]? = some y := by
  by_cases hi : i < s.size
  · rw [getElem?_pos s i hi] at h
    rw [List.getElem?_eq_getElem (by rw [size_list]; exact hi)]
    exact h
  · rw [getElem?_neg s i hi] at h; cases h
theorem ext_add {s : ByteArray} {a b : Nat} (h : a ≤ b) : s.extract (a : Int).toNat ((a : Int).toNat + ((b : Int).toNat - (a : Int).toNat)) = s.extract a b := by
  rw [Int.toNat_natCast, Int.toNat_natCast, Nat.add_sub_cancel' h]
theorem ext_end {s : ByteArray} {a : Nat} (h : a ≤ s.size) : s.extract (a : Int).toNat ((a : Int).toNat + (s.size - (a : Int).toNat)) = s.extract a s.size := by
  rw [Int.toNat_natCast, Nat.add_sub_cancel' h]
def inv22 (s : ByteArray) (x : WX) : Prop := I17 s x ∨ O17 s x
abbrev lp22 (s : ByteArray) : Nat → Option LoopSp := fun _ => some { X := WX, sl := fun x => [(0, .one (.val (.string s))), (3, .one (.sl 0)), (4, .one (vi x.2.1)), (5, .one (vi x.2.2))], h := fun x => [(0, .own 9 .str x.1)], nx := 1, inv := inv22 s, mu := fun x => s.size + 1 - x.2.2 }
theorem v22 : Valid Tryd.prog 22 (.pre (rS [pS] [pSs] (fun x => ByteArray.size x ≤ 1000000) (fun x y => y = wd x))) := by
  refine rS_ok mixed Tbl_ok L5_ok Tryd.func22 call22 rfl ?_
  rintro (s : ByteArray) hr hs
  refine ⟨lp22 s, ?_⟩
  refine Eq.mp (by kernel_rfl : ((∃ (x : WX), (I17 s x ∨ O17 s x) ∧ Value.string s = Value.string s ∧ (0 : Int) = (↑x.snd.fst : Int) ∧ (0 : Int) = (↑x.snd.snd : Int) ∧ x.fst = ([] : List ByteArray) ∧ True) ∧ ∀ (x : WX), I17 s x ∨ O17 s x → (decide ((↑x.snd.snd : Int) ≤ (↑s.size : Int)) = true → (((↑x.snd.snd : Int) == (↑s.size : Int)) = true → ((0 : Int) ≤ (↑x.snd.fst : Int) ∧ (↑x.snd.fst : Int) ≤ (↑x.snd.snd : Int) ∧ (↑x.snd.snd : Int) ≤ (↑s.size : Int)) ∧ (x.fst.length + (s.extract (↑x.snd.fst : Int).toNat ((↑x.snd.fst : Int).toNat + ((↑x.snd.snd : Int).toNat - (↑x.snd.fst : Int).toNat)) :: ([] : List ByteArray)).length) * (16 : Nat) ≤ (140737488355328 : Nat) ∧ ((-9223372036854775808 : Int) ≤ (↑x.snd.snd : Int) + (1 : Int) ∧ (↑x.snd.snd : Int) + (1 : Int) ≤ (9223372036854775807 : Int)) ∧ ((-9223372036854775808 : Int) ≤ (↑x.snd.snd : Int) + (1 : Int) ∧ (↑x.snd.snd : Int) + (1 : Int) ≤ (9223372036854775807 : Int)) ∧ ∃ (y : WX), (I17 s y ∨ O17 s y) ∧ s.size + (1 : Nat) - y.snd.snd < s.size + (1 : Nat) - x.snd.snd ∧ Value.string s = Value.string s ∧ (↑x.snd.snd : Int) + (1 : Int) = (↑y.snd.fst : Int) ∧ (↑x.snd.snd : Int) + (1 : Int) = (↑y.snd.snd : Int) ∧ x.fst ++ s.extract (↑x.snd.fst : Int).toNat ((↑x.snd.fst : Int).toNat + ((↑x.snd.snd : Int).toNat - (↑x.snd.fst : Int).toNat)) :: ([] : List ByteArray) ≍ y.fst ∧ True) ∧ (((↑x.snd.snd : Int) == (↑s.size : Int)) = false → ((0 : Int) ≤ (↑x.snd.snd : Int) ∧ (↑x.snd.snd : Int) < (↑s.size : Int)) ∧ ∀ (y : UInt8), s[(↑x.snd.snd : Int).toNat]? = some y → (((↑y.toNat : Int) == (32 : Int)) = true → ((0 : Int) ≤ (↑x.snd.fst : Int) ∧ (↑x.snd.fst : Int) ≤ (↑x.snd.snd : Int) ∧ (↑x.snd.snd : Int) ≤ (↑s.size : Int)) ∧ (x.fst.length + (s.extract (↑x.snd.fst : Int).toNat ((↑x.snd.fst : Int).toNat + ((↑x.snd.snd : Int).toNat - (↑x.snd.fst : Int).toNat)) :: ([] : List ByteArray)).length) * (16 : Nat) ≤ (140737488355328 : Nat) ∧ ((-9223372036854775808 : Int) ≤ (↑x.snd.snd : Int) + (1 : Int) ∧ (↑x.snd.snd : Int) + (1 : Int) ≤ (9223372036854775807 : Int)) ∧ ((-9223372036854775808 : Int) ≤ (↑x.snd.snd : Int) + (1 : Int) ∧ (↑x.snd.snd : Int) + (1 : Int) ≤ (9223372036854775807 : Int)) ∧ ∃ (y : WX), (I17 s y ∨ O17 s y) ∧ s.size + (1 : Nat) - y.snd.snd < s.size + (1 : Nat) - x.snd.snd ∧ Value.string s = Value.string s ∧ (↑x.snd.snd : Int) + (1 : Int) = (↑y.snd.fst : Int) ∧ (↑x.snd.snd : Int) + (1 : Int) = (↑y.snd.snd : Int) ∧ x.fst ++ s.extract (↑x.snd.fst : Int).toNat ((↑x.snd.fst : Int).toNat + ((↑x.snd.snd : Int).toNat - (↑x.snd.fst : Int).toNat)) :: ([] : List ByteArray) ≍ y.fst ∧ True) ∧ (((↑y.toNat : Int) == (32 : Int)) = false → ((-9223372036854775808 : Int) ≤ (↑x.snd.snd : Int) + (1 : Int) ∧ (↑x.snd.snd : Int) + (1 : Int) ≤ (9223372036854775807 : Int)) ∧ ∃ (y : WX), (I17 s y ∨ O17 s y) ∧ s.size + (1 : Nat) - y.snd.snd < s.size + (1 : Nat) - x.snd.snd ∧ Value.string s = Value.string s ∧ (↑x.snd.fst : Int) = (↑y.snd.fst : Int) ∧ (↑x.snd.snd : Int) + (1 : Int) = (↑y.snd.snd : Int) ∧ x.fst ≍ y.fst ∧ True))) ∧ (decide ((↑x.snd.snd : Int) ≤ (↑s.size : Int)) = false → ∃ (y : Tup (pSs :: ([] : List PS))), y = wd s ∧ x.fst ≍ y ∧ True)) = _) ?_
  have hs : s.size ≤ 1000000 := hs
  refine ⟨⟨([], 0, 0), .inl (I17.zero s), rfl, rfl, rfl, rfl, trivial⟩, ?_⟩
  rintro ⟨W, f, i⟩ hx
  have h16 : W.length ≤ s.size + 1 := by
    rcases hx with h | h
    · have := h.ln; have := h.ft; have := h.ps; dsimp only at *; omega
    · exact h.ln
  dsimp only
  refine ⟨fun h1 => ?_, fun h1 => ?_⟩
  · have h1 : i ≤ s.size := by simpa using h1
    have hx : I17 s (W, f, i) := by
      rcases hx with h | h
      · exact h
      · have := h.ps; dsimp only at this; omega
    have hft : f ≤ i := hx.ft
    rw [ext_add hft]
    refine ⟨fun h2 => ⟨by omega, by simp only [List.length_singleton]; omega, by omega, by omega, (W ++ [s.extract f i], i + 1, i + 1), .inr ?_, by dsimp only; omega, rfl, by simp, by simp, HEq.rfl, trivial⟩, fun h2 => ⟨?_, fun y hy => ⟨fun h3 => ⟨by omega, by simp only [List.length_singleton]; omega, by omega, by omega, (W ++ [s.extract f i], i + 1, i + 1), .inl ?_, by dsimp only; omega, rfl, by simp, by simp, HEq.rfl, trivial⟩, fun h3 => ⟨by omega, (W, f, i + 1), .inl ?_, by dsimp only; omega, rfl, rfl, by simp, HEq.rfl, trivial⟩⟩⟩⟩
    · have h2 : i = s.size := by simp only [beq_iff_eq] at h2; omega
      subst h2
      refine ⟨rfl, i17_fin hx rfl, ?_⟩
      simp only [List.length_append, List.length_singleton]
      have := hx.ln; dsimp only at this; omega
    · have h2 : ¬ i = s.size := by simp only [beq_eq_false_iff_ne, ne_eq] at h2; omega
      omega
    · rw [Int.toNat_natCast] at hy
      have h3 : y = 32 := by
        simp only [beq_iff_eq] at h3
        exact UInt8.toNat_inj.1 (by rw [show (32 : UInt8).toNat = 32 from rfl]; omega)
      subst h3
      exact hx.blank (get_list hy)
    · rw [Int.toNat_natCast] at hy
      have h2 : ¬ i = s.size := by simp only [beq_eq_false_iff_ne, ne_eq] at h2; omega
      refine ⟨by dsimp only; omega, by dsimp only; omega, fun j h4 h5 => ?_, hx.wd, hx.ln⟩
      dsimp only at h4 h5
      rcases Nat.lt_or_ge j i with h6 | h6
      · exact hx.nb j h4 h6
      · have : j = i := by omega
        subst this
        rw [get_list hy]
        intro e
        rw [Option.some.inj e] at h3
        exact absurd h3 (by decide)
  · have h1 : ¬ i ≤ s.size := by simpa using h1
    rcases hx with h | h
    · exact absurd h.ps h1
    · exact ⟨W, h.wd.symm, HEq.rfl, trivial⟩
abbrev lp17 (s : ByteArray) : Nat → Option LoopSp := fun _ => some { X := WX, sl := fun x => [(0, .one (.val (.string s))), (3, .one (.sl 0)), (4, .one (vi x.2.1)), (8, .one (.ptr 1 0))], h := fun x => [(0, .own 9 .str x.1), (1, .it s x.2.2)], nx := 2, inv := I17 s, mu := fun x => s.size - x.2.2 }
theorem v17 : Valid Tryd.prog 17 (.pre (rS [pS] [pSs] (fun x => ByteArray.size x ≤ 1000000) (fun x y => y = wd x))) := by
  refine rS_ok mixed Tbl_ok L5_ok Tryd.func17 call17 rfl ?_
  rintro (s : ByteArray) hr hs
  refine ⟨lp17 s, ?_⟩
  refine Eq.mp (by kernel_rfl : ((∃ (x : WX), I17 s x ∧ Value.string s = Value.string s ∧ (0 : Int) = (↑x.snd.fst : Int) ∧ x.fst = ([] : List ByteArray) ∧ s = s ∧ (0 : Nat) = x.snd.snd ∧ True) ∧ ∀ (x : WX), I17 s x → (x.snd.snd < s.size → (((↑(Utf8.decode s x.snd.snd).fst : Int) == (32 : Int)) = true → ((0 : Int) ≤ (↑x.snd.fst : Int) ∧ (↑x.snd.fst : Int) ≤ (↑x.snd.snd : Int) ∧ (↑x.snd.snd : Int) ≤ (↑s.size : Int)) ∧ (x.fst.length + (s.extract (↑x.snd.fst : Int).toNat ((↑x.snd.fst : Int).toNat + ((↑x.snd.snd : Int).toNat - (↑x.snd.fst : Int).toNat)) :: ([] : List ByteArray)).length) * (16 : Nat) ≤ (140737488355328 : Nat) ∧ ((-9223372036854775808 : Int) ≤ (↑x.snd.snd : Int) + (1 : Int) ∧ (↑x.snd.snd : Int) + (1 : Int) ≤ (9223372036854775807 : Int)) ∧ ∃ (y : WX), I17 s y ∧ s.size - y.snd.snd < s.size - x.snd.snd ∧ Value.string s = Value.string s ∧ (↑x.snd.snd : Int) + (1 : Int) = (↑y.snd.fst : Int) ∧ x.fst ++ s.extract (↑x.snd.fst : Int).toNat ((↑x.snd.fst : Int).toNat + ((↑x.snd.snd : Int).toNat - (↑x.snd.fst : Int).toNat)) :: ([] : List ByteArray) ≍ y.fst ∧ s = s ∧ x.snd.snd + (Utf8.decode s x.snd.snd).snd = y.snd.snd ∧ True) ∧ (((↑(Utf8.decode s x.snd.snd).fst : Int) == (32 : Int)) = false → ∃ (y : WX), I17 s y ∧ s.size - y.snd.snd < s.size - x.snd.snd ∧ Value.string s = Value.string s ∧ (↑x.snd.fst : Int) = (↑y.snd.fst : Int) ∧ x.fst ≍ y.fst ∧ s = s ∧ x.snd.snd + (Utf8.decode s x.snd.snd).snd = y.snd.snd ∧ True)) ∧ (s.size ≤ x.snd.snd → ((0 : Int) ≤ (↑x.snd.fst : Int) ∧ (↑x.snd.fst : Int) ≤ (↑s.size : Int)) ∧ (x.fst.length + (s.extract (↑x.snd.fst : Int).toNat ((↑x.snd.fst : Int).toNat + (s.size - (↑x.snd.fst : Int).toNat)) :: ([] : List ByteArray)).length) * (16 : Nat) ≤ (140737488355328 : Nat) ∧ ∃ (y : Tup (pSs :: ([] : List PS))), y = wd s ∧ x.fst ++ s.extract (↑x.snd.fst : Int).toNat ((↑x.snd.fst : Int).toNat + (s.size - (↑x.snd.fst : Int).toNat)) :: ([] : List ByteArray) ≍ y ∧ True)) = _) ?_
  have hs : s.size ≤ 1000000 := hs
  refine ⟨⟨([], 0, 0), I17.zero s, rfl, rfl, rfl, rfl, rfl, trivial⟩, ?_⟩
  rintro ⟨W, f, i⟩ hx
  have h16 : W.length ≤ s.size + 1 := by have := hx.ln; have := hx.ft; have := hx.ps; dsimp only at *; omega
  have hft : f ≤ i := hx.ft
  have hps : i ≤ s.size := hx.ps
  dsimp only
  rw [ext_add hft, ext_end (by omega)]
  refine ⟨fun h1 => ⟨fun h2 => ⟨by omega, by simp only [List.length_singleton]; omega, by omega, (W ++ [s.extract f i], i + 1, i + 1), ?_, by dsimp only; omega, rfl, by simp, HEq.rfl, rfl, ?_, trivial⟩, fun h2 => ⟨(W, f, i + (Utf8.decode s i).2), ?_, ?_, rfl, rfl, HEq.rfl, rfl, rfl, trivial⟩⟩, fun h1 => ⟨by omega, by simp only [List.length_singleton]; omega, _, rfl, ?_, trivial⟩⟩
  · have h2 : (Utf8.decode s i).1 = 32 := by simp only [beq_iff_eq] at h2; omega
    exact hx.blank ((rune_blank h1).1.1 h2)
  · have h2 : (Utf8.decode s i).1 = 32 := by simp only [beq_iff_eq] at h2; omega
    rw [(rune_blank h1).2 ((rune_blank h1).1.1 h2)]
  · have h2 : (Utf8.decode s i).1 ≠ 32 := fun e => by simp [e] at h2
    obtain ⟨k1, k2, k3⟩ := decode_skip h1
    exact ⟨by dsimp only; omega, k1, noB_skip h1 hx.nb h2, hx.wd, hx.ln⟩
  · obtain ⟨k1, k2, k3⟩ := decode_skip h1
    dsimp only; omega
  · have h1 : i = s.size := by omega
    rw [i17_fin hx h1]
abbrev pre6 : ByteArray → Prop := fun x => ByteArray.size x ≤ 1000000
abbrev wdS : Spec := .pre (rS [pS] [pSs] (fun x => ByteArray.size x ≤ 1000000) (fun x y => y = wd x))
abbrev L6 : List (Nat × Spec) := (17, wdS) :: (22, wdS) :: L5
theorem L6_all : ∀ p ∈ L6, Valid Tryd.prog p.1 p.2 := vcons v17 (vcons v22 L5_all)
theorem L6_ok : ∀ f S, spL L6 f = some S → Valid Tryd.prog f S := spL_ok L6_all
theorem dig_ext {d : Nat} (h : d < 10) : (ByteArray.mk #[48, 49, 50, 51, 52, 53, 54, 55, 56, 57]).extract d (d + 1) = mkW [UInt8.ofNat (48 + d)] := by
  have : d = 0 ∨ d = 1 ∨ d = 2 ∨ d = 3 ∨ d = 4 ∨ d = 5 ∨ d = 6 ∨ d = 7 ∨ d = 8 ∨ d = 9 := by omega
  rcases this with rfl | rfl | rfl | rfl | rfl | rfl | rfl | rfl | rfl | rfl <;> rfl
structure I44 (n : Nat) (x : Nat × Nat × ByteArray) : Prop where
  i : x.1 ≤ 20
  v : x.2.1 < 10 ^ (20 - x.1)
  p : x.1 = 0 ∨ 0 < x.2.1
  d : Lib.decDigits n = Lib.decDigits x.2.1 ++ x.2.2.data.toList
  s : x.2.2.size = x.1
theorem mkW_app (l : List UInt8) (s : ByteArray) : (mkW l ++ s).data.toList = l ++ s.data.toList := by simp [mkW]
theorem mkW_size (l : List UInt8) : (mkW l).size = l.length := by show Array.size _ = _; simp [mkW]
abbrev lp44 (n : Nat) : Nat → Option LoopSp := fun _ => some { X := Nat × Nat × ByteArray, sl := fun x => [(0, .one (.val (.int .u64 x.2.1))), (3, .one (.val (.string x.2.2))), (4, .one (vi x.1))], h := fun _ => [], nx := 0, inv := fun x => I44 n x, mu := fun x => 20 - x.1 }
theorem v44 : Valid Tryd.prog 44 (.tot (tS [pU] [pS] fun n => decB n)) := by
  refine tS_ok mixed Tbl_ok L6_ok Tryd.func44 call44 rfl rfl rfl ?_
  rintro (n : Int) hr z hz
  refine ⟨lp44 n.toNat, ?_⟩
  refine Eq.mp (by kernel_rfl : ((∃ (x : Nat × Nat × ByteArray), I44 n.toNat x ∧ n = (↑x.snd.fst : Int) ∧ Value.string (ByteArray.mk ([] : List UInt8).toArray) = Value.string x.snd.snd ∧ (0 : Int) = (↑x.fst : Int) ∧ True) ∧ ∀ (x : Nat × Nat × ByteArray), I44 n.toNat x → (decide ((↑x.fst : Int) < (20 : Int)) = true → (10 : Int) ≠ (0 : Int) ∧ (10 : Int) ≠ (0 : Int) ∧ ((0 : Int) ≤ (↑x.snd.fst : Int).tmod (10 : Int) ∧ (↑x.snd.fst : Int).tmod (10 : Int) ≤ IntKind.u64.wrap ((↑x.snd.fst : Int).tmod (10 : Int) + (1 : Int)) ∧ IntKind.u64.wrap ((↑x.snd.fst : Int).tmod (10 : Int) + (1 : Int)) ≤ (↑(ByteArray.mk ((48 : UInt8) :: (49 : UInt8) :: (50 : UInt8) :: (51 : UInt8) :: (52 : UInt8) :: (53 : UInt8) :: (54 : UInt8) :: (55 : UInt8) :: (56 : UInt8) :: (57 : UInt8) :: ([] : List UInt8)).toArray).size : Int)) ∧ ((ByteArray.mk ((48 : UInt8) :: (49 : UInt8) :: (50 : UInt8) :: (51 : UInt8) :: (52 : UInt8) :: (53 : UInt8) :: (54 : UInt8) :: (55 : UInt8) :: (56 : UInt8) :: (57 : UInt8) :: ([] : List UInt8)).toArray).extract ((↑x.snd.fst : Int).tmod (10 : Int)).toNat (((↑x.snd.fst : Int).tmod (10 : Int)).toNat + ((IntKind.u64.wrap ((↑x.snd.fst : Int).tmod (10 : Int) + (1 : Int))).toNat - ((↑x.snd.fst : Int).tmod (10 : Int)).toNat))).size + x.snd.snd.size ≤ maxLen ∧ (10 : Int) ≠ (0 : Int) ∧ ((IntKind.u64.wrap ((↑x.snd.fst : Int).tdiv (10 : Int)) == (0 : Int)) = true → Value.string ((ByteArray.mk ((48 : UInt8) :: (49 : UInt8) :: (50 : UInt8) :: (51 : UInt8) :: (52 : UInt8) :: (53 : UInt8) :: (54 : UInt8) :: (55 : UInt8) :: (56 : UInt8) :: (57 : UInt8) :: ([] : List UInt8)).toArray).extract ((↑x.snd.fst : Int).tmod (10 : Int)).toNat (((↑x.snd.fst : Int).tmod (10 : Int)).toNat + ((IntKind.u64.wrap ((↑x.snd.fst : Int).tmod (10 : Int) + (1 : Int))).toNat - ((↑x.snd.fst : Int).tmod (10 : Int)).toNat)) ++ x.snd.snd) = Value.string z ∧ True) ∧ ((IntKind.u64.wrap ((↑x.snd.fst : Int).tdiv (10 : Int)) == (0 : Int)) = false → ((-9223372036854775808 : Int) ≤ (↑x.fst : Int) + (1 : Int) ∧ (↑x.fst : Int) + (1 : Int) ≤ (9223372036854775807 : Int)) ∧ ∃ (y : Nat × Nat × ByteArray), I44 n.toNat y ∧ (20 : Nat) - y.fst < (20 : Nat) - x.fst ∧ IntKind.u64.wrap ((↑x.snd.fst : Int).tdiv (10 : Int)) = (↑y.snd.fst : Int) ∧ Value.string ((ByteArray.mk ((48 : UInt8) :: (49 : UInt8) :: (50 : UInt8) :: (51 : UInt8) :: (52 : UInt8) :: (53 : UInt8) :: (54 : UInt8) :: (55 : UInt8) :: (56 : UInt8) :: (57 : UInt8) :: ([] : List UInt8)).toArray).extract ((↑x.snd.fst : Int).tmod (10 : Int)).toNat (((↑x.snd.fst : Int).tmod (10 : Int)).toNat + ((IntKind.u64.wrap ((↑x.snd.fst : Int).tmod (10 : Int) + (1 : Int))).toNat - ((↑x.snd.fst : Int).tmod (10 : Int)).toNat)) ++ x.snd.snd) = Value.string y.snd.snd ∧ (↑x.fst : Int) + (1 : Int) = (↑y.fst : Int) ∧ True)) ∧ (decide ((↑x.fst : Int) < (20 : Int)) = false → Value.string x.snd.snd = Value.string z ∧ True)) = _) ?_
  have hz : decB n = z := hz
  subst hz
  have hr : 0 ≤ n ∧ n ≤ 18446744073709551615 := hr
  obtain ⟨n, rfl⟩ : ∃ m : Nat, n = m := ⟨n.toNat, by omega⟩
  rw [Int.toNat_natCast]
  refine ⟨⟨(0, n, ⟨#[]⟩), ⟨Nat.zero_le _, ?_, .inl rfl, by simp, rfl⟩, rfl, rfl, rfl, trivial⟩, ?_⟩
  · show n < 10 ^ 20
    omega
  rintro ⟨i, v, s⟩ hx
  have hi : i ≤ 20 := hx.i
  have hv : v < 10 ^ (20 - i) := hx.v
  have hs : s.size = i := hx.s
  have h20 : 10 ^ (20 - i) ≤ 10 ^ 20 := Nat.pow_le_pow_right (by decide) (by omega)
  have h20' : v < 100000000000000000000 := Nat.lt_of_lt_of_le hv h20
  have hd : v % 10 < 10 := Nat.mod_lt _ (by decide)
  have e1 : ((v : Int)).tmod 10 = ((v % 10 : Nat) : Int) := by rw [Int.tmod_eq_emod_of_nonneg (by omega)]; omega
  have e2 : ((v : Int)).tdiv 10 = ((v / 10 : Nat) : Int) := by rw [Int.tdiv_eq_ediv_of_nonneg (by omega)]; omega
  have e3 : IntKind.u64.wrap (((v % 10 : Nat) : Int) + 1) = ((v % 10 : Nat) : Int) + 1 := by rw [IntKind.wrap_u64]; omega
  have e4 : IntKind.u64.wrap ((v / 10 : Nat) : Int) = ((v / 10 : Nat) : Int) := by rw [IntKind.wrap_u64]; omega
  have e5 : (ByteArray.mk (48 :: 49 :: 50 :: 51 :: 52 :: 53 :: 54 :: 55 :: 56 :: 57 :: ([] : List UInt8)).toArray).extract (((v % 10 : Nat) : Int)).toNat ((((v % 10 : Nat) : Int)).toNat + ((((v % 10 : Nat) : Int) + 1).toNat - (((v % 10 : Nat) : Int)).toNat)) = mkW [UInt8.ofNat (48 + v % 10)] := by
    rw [show (((v % 10 : Nat) : Int)).toNat + ((((v % 10 : Nat) : Int) + 1).toNat - (((v % 10 : Nat) : Int)).toNat) = v % 10 + 1 by omega, Int.toNat_natCast]
    exact dig_ext hd
  have hmx : 21 ≤ maxLen := by decide
  dsimp only
  rw [e1, e2, e3, e4, e5]
  refine ⟨fun h => ⟨by decide, by decide, ⟨by omega, by omega, ?_⟩, ?_, by decide, fun h2 => ⟨?_, trivial⟩, fun h2 => ⟨by omega, (i + 1, v / 10, mkW [UInt8.ofNat (48 + v % 10)] ++ s), ?_, ?_, rfl, rfl, by simp, trivial⟩⟩, fun h => ?_⟩
  · show _ ≤ ((10 : Nat) : Int)
    omega
  · rw [mkW_size, hs]; simp only [List.length_singleton]; omega
  · have h2 : v < 10 := by simp only [beq_iff_eq] at h2; omega
    congr 1
    apply ba_ext
    rw [mkW_app, decB_list, Lib.itoa_nonneg, hx.d, Lib.decDigits_one h2, Nat.mod_eq_of_lt h2]
  · have h2 : ¬ v < 10 := by simp only [beq_eq_false_iff_ne, ne_eq] at h2; omega
    have h : i < 20 := by simp only [decide_eq_true_eq] at h; omega
    refine ⟨h, ?_, .inr (by dsimp only; omega), ?_, ?_⟩
    · dsimp only
      rw [show 20 - i = (20 - (i + 1)) + 1 by omega, Nat.pow_succ] at hv
      omega
    · dsimp only
      rw [mkW_app, hx.d, Lib.decDigits, dif_neg h2, List.append_assoc]
    · dsimp only
      rw [ByteArray.size_append, mkW_size, hs]; simp only [List.length_singleton]; omega
  · have h : i < 20 := by simp only [decide_eq_true_eq] at h; omega
    omega
  · have h : i = 20 := by simp only [decide_eq_false_iff_not] at h; omega
    subst h
    have := hx.p
    simp only [Nat.sub_self, Nat.pow_zero] at hv
    dsimp only at this
    omega
abbrev L7 : List (Nat × Spec) := (44, .tot (tS [pU] [pS] fun n => decB n)) :: L6
theorem L7_all : ∀ p ∈ L7, Valid Tryd.prog p.1 p.2 := vcons v44 L6_all
theorem L7_ok : ∀ f S, spL L7 f = some S → Valid Tryd.prog f S := spL_ok L7_all
theorem v34 : Valid Tryd.prog 34 (.tot (tS [(false, .int .i64)] [pS] fun n => decB n)) := by
  refine tS_ok mixed Tbl_ok L7_ok Tryd.func34 call34 rfl rfl rfl ?_
  rintro (n : Int) hr z hz
  refine ⟨noLoop, ?_⟩
  refine Eq.mp (by kernel_rfl : ((decide (n < (0 : Int)) = true → ((-9223372036854775808 : Int) ≤ n + (1 : Int) ∧ n + (1 : Int) ≤ (9223372036854775807 : Int)) ∧ (ByteArray.mk ((45 : UInt8) :: ([] : List UInt8)).toArray).size + (decB (IntKind.u64.wrap (IntKind.u64.wrap (IntKind.i64.wrap ((0 : Int) - (n + (1 : Int)))) + (1 : Int)))).size ≤ maxLen ∧ Value.string (ByteArray.mk ((45 : UInt8) :: ([] : List UInt8)).toArray ++ decB (IntKind.u64.wrap (IntKind.u64.wrap (IntKind.i64.wrap ((0 : Int) - (n + (1 : Int)))) + (1 : Int)))) = Value.string z ∧ True) ∧ (decide (n < (0 : Int)) = false → Value.string (decB (IntKind.u64.wrap n)) = Value.string z ∧ True)) = _) ?_
  have hz : decB n = z := hz
  subst hz
  have hr : -9223372036854775808 ≤ n ∧ n ≤ 9223372036854775807 := hr
  refine ⟨fun h => ?_, fun h => ⟨?_, trivial⟩⟩
  · have h : n < 0 := by simpa using h
    obtain ⟨u, rfl⟩ : ∃ u : Nat, n = -(u : Int) := ⟨n.natAbs, by omega⟩
    have e : IntKind.u64.wrap (IntKind.u64.wrap (IntKind.i64.wrap (0 - (-(u : Int) + 1))) + 1) = (u : Int) := by
      rw [IntKind.wrap_u64, IntKind.wrap_u64, IntKind.wrap_i64]
      omega
    rw [e]
    have hs := decB_size (n := (u : Int) - 1) (by omega) (by omega)
    refine ⟨by omega, ?_, ?_, trivial⟩
    · have : (decB (u : Int)).size ≤ 20 := by
        rw [decB_u]
        show Array.size _ ≤ _
        have := Lib.nDigits_le20 u (by omega)
        rw [← Lib.decDigits_length] at this
        simpa using this
      have hmx : 21 ≤ maxLen := by decide
      show 1 + _ ≤ _
      omega
    · congr 1
      apply ba_ext
      rw [decB_list, Lib.itoa_neg u (by omega), decB_u]
      simp
  · have h : ¬ n < 0 := by simpa using h
    rw [show IntKind.u64.wrap n = n by rw [IntKind.wrap_u64]; omega]
abbrev L8 : List (Nat × Spec) := (34, .tot (tS [(false, .int .i64)] [pS] fun n => decB n)) :: inl1 36 Tryd.f36 L7 :: L7
theorem L8_all : ∀ p ∈ L8, Valid Tryd.prog p.1 p.2 := vcons v34 (vcons (valid_inl mixed Tbl_ok L7_ok Tryd.func36 call36 noLp) L7_all)
theorem L8_ok : ∀ f S, spL L8 f = some S → Valid Tryd.prog f S := spL_ok L8_all
end Go.Proofs.YtljbcclpmlkpnaaDoor.V
