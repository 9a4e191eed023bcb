import Derived.KernelRfl
import Derived.Test.YtgaiedcmohpiaaaTys
import Derived.Test.YtgaiedcmohpiaaaKitVr
import Derived.Test.YtgaiedcmohpiaaaKitVt
namespace Go.Proofs.Ytgaiedcmohpiaaa.V
open Go.RowKit Go.Proofs.Ytgaiedcmohpiaaa
set_option linter.unusedSimpArgs false
theorem add_any (b o : Nat) (n k : Int) (w : World) (hc : w.cell? ⟨b, o, none⟩ = some (.int .i64 n)) (hf : w.frozen? ⟨b, o, none⟩ = false) (_ : inR .i64 k) :
    Calls Try.prog 36 #[.pointer (some ⟨b, o, none⟩), .int .i64 k] w fun e w' => ∃ m, inR .i64 m ∧ e = .returned (.int .i64 m) ∧ w' = w.setCell ⟨b, o, none⟩ (.int .i64 m) := by
  have hadd := run_call_add (P := Try.prog) Try.func43 (by kernel_rfl) (by kernel_rfl) (by kernel_rfl) .i64 (by kernel_rfl) (y := k) (s := IntKind.i64.wrap (n + k)) hc hf (by simp [go_sem])
  go_enter Try.func36, Try.ntmps36
  go_wp2
  go_ret
  refine ⟨_, ?_, rfl, rfl⟩
  exact inR_wf.2 (wrap64_wf _)
abbrev noLoop : Nat → Option LoopSp := fun _ => none
theorem v36 : Valid Try.prog 36 (.full addS) := valid_add call36 add_any
abbrev shW : Sh := .arr 8 .u64
abbrev LN := List Int
/-- A device: its block 0, its lines 1. -/
abbrev dvR : List (Nat × PR) := [(0, .blk [.s 1, .d (.int .i64), .nm .i64, .nm .i64] 76), (1, .own 34 shW)]
abbrev I : PC := .d (.int .i64)
/-- Is a line there? -/
def mayD (n : Nat) (line : Int) : Int := if 0 ≤ line ∧ line < n then 0 else 12
def may1 : PT where
  ps := [.one (.p 0 0), .one I]
  rg := dvR
  na := 2
  rs := [.one I]
  out := dvR
  nx := 2
  pre := fun _ => True
  post := fun (line, vol, ls, _) (e, vol', ls', _) => e = mayD ls.length line ∧ vol' = vol ∧ ls' = ls
def may2 : PT where
  ps := [.one .nil, .one I]
  rg := []
  na := 0
  rs := [.one I]
  out := []
  nx := 0
  pre := fun _ => True
  post := fun _ (e, _) => e = 1
theorem L0_all : ∀ p ∈ [((36 : FuncId), Spec.full addS)], Valid Try.prog p.1 p.2 := vcons v36 (fun p hp => by cases hp)
theorem L0_ok : ∀ f S, spL [((36 : FuncId), Spec.full addS)] f = some S → Valid Try.prog f S := spL_ok L0_all
theorem v35 : Valid Try.prog 35 (.full (callsP [may1, may2])) := by
  refine valid_Ps mixed Tbl_ok L0_ok Try.func35 call35 ⟨?a, ?b, trivial⟩
  case a =>
    intro (line : Int) (vol : Int) (ls : List LN) hp hr hh
    refine ⟨noLoop, ?_⟩
    refine Eq.mp (by kernel_rfl : (((decide (line < (0 : Int)) || decide (line ≥ (↑ls.length : Int))) = true → ∃ (x : Int), ∃ (x_1 : Int), ∃ (x_2 : List (List Int)), ((12 : Int) = x ∧ vol = x_1 ∧ ls ≍ x_2 ∧ True) ∧ x = mayD ls.length line ∧ x_1 = vol ∧ x_2 = ls) ∧ ((decide (line < (0 : Int)) || decide (line ≥ (↑ls.length : Int))) = false → ∃ (x : Int), ∃ (x_1 : Int), ∃ (x_2 : List (List Int)), ((0 : Int) = x ∧ vol = x_1 ∧ ls ≍ x_2 ∧ True) ∧ x = mayD ls.length line ∧ x_1 = vol ∧ x_2 = ls)) = _) ?_
    refine ⟨fun h => ⟨_, _, _, ⟨rfl, rfl, HEq.rfl, trivial⟩, ?_, rfl, rfl⟩, fun h => ⟨_, _, _, ⟨rfl, rfl, HEq.rfl, trivial⟩, ?_, rfl, rfl⟩⟩
    · simp at h
      unfold mayD
      rw [if_neg (by omega)]
    · simp at h
      unfold mayD
      rw [if_pos (by omega)]
  case b =>
    intro line hp hr hh
    refine ⟨noLoop, ?_⟩
    refine Eq.mp (by kernel_rfl : (∃ (x : Int), ((1 : Int) = x ∧ True) ∧ x = (1 : Int)) = _) ?_
    exact ⟨_, ⟨rfl, trivial⟩, rfl⟩
abbrev Z8 : List Int := List.replicate 8 0
abbrev A : PC := .d shW
def rdD (ls : List LN) (line : Int) : LN := if 0 ≤ line ∧ line < ls.length then ls.getD line.toNat Z8 else Z8
def wrD (ls : List LN) (line : Int) (l : LN) : List LN := if 0 ≤ line ∧ line < ls.length then ls.set line.toNat l else ls
abbrev L1 : List (Nat × Spec) := [(36, .full addS), (35, .full (callsP [may1, may2]))]
theorem L1_all : ∀ p ∈ L1, Valid Try.prog p.1 p.2 := vcons v36 (vcons v35 (fun p hp => by cases hp))
theorem L1_ok : ∀ f S, spL L1 f = some S → Valid Try.prog f S := spL_ok L1_all
def read1 : PT where
  ps := [.one (.p 0 0), .one I]
  rg := dvR
  na := 2
  rs := [.agg [A], .one I]
  out := dvR
  nx := 2
  pre := fun _ => True
  post := fun (line, vol, ls, _) (l, e, vol', ls', _) => e = mayD ls.length line ∧ l = rdD ls line ∧ vol' = vol ∧ ls' = ls
def read2 : PT where
  ps := [.one .nil, .one I]
  rg := []
  na := 0
  rs := [.agg [A], .one I]
  out := []
  nx := 0
  pre := fun _ => True
  post := fun _ (l, e, _) => e = 1 ∧ l = Z8
theorem mayD_in {n : Nat} {i : Int} (h : 0 ≤ i ∧ i < n) : mayD n i = 0 := if_pos h
theorem mayD_out {n : Nat} {i : Int} (h : ¬ (0 ≤ i ∧ i < n)) : mayD n i = 12 := if_neg h
theorem rdD_in {ls : List LN} {i : Int} (h : 0 ≤ i ∧ i < ls.length) : rdD ls i = ls.getD i.toNat Z8 := if_pos h
theorem rdD_out {ls : List LN} {i : Int} (h : ¬ (0 ≤ i ∧ i < ls.length)) : rdD ls i = Z8 := if_neg h
theorem wrD_in {ls : List LN} {i : Int} {l : LN} (h : 0 ≤ i ∧ i < ls.length) : wrD ls i l = ls.set i.toNat l := if_pos h
theorem wrD_out {ls : List LN} {i : Int} {l : LN} (h : ¬ (0 ≤ i ∧ i < ls.length)) : wrD ls i l = ls := if_neg h
theorem getD_of {α : Type} {l : List α} {i : Nat} {y z : α} (h : l[i]? = some y) : l.getD i z = y := by simp [List.getD, h]
theorem v14 : Valid Try.prog 14 (.full (callsP [read1, read2])) := by
  refine valid_Ps mixed Tbl_ok L1_ok Try.func14 call14 ⟨?a, ?b, trivial⟩
  case a =>
    intro (line : Int) (vol : Int) (ls : List LN) hp hr hh
    refine ⟨noLoop, ?_⟩
    refine Eq.mp (by kernel_rfl : (True ∧ ∀ (x x_1 : Int) (x_2 : List (List Int)), x = mayD ls.length line ∧ x_1 = vol ∧ x_2 = ls → ((x != (0 : Int)) = true → ∃ (x_3 : List Int), ∃ (x_4 : Int), ∃ (x_5 : Int), ∃ (x_6 : List (List Int)), (List.replicate (8 : Nat) (0 : Int) = x_3 ∧ x = x_4 ∧ x_1 = x_5 ∧ x_2 ≍ x_6 ∧ True) ∧ x_4 = mayD ls.length line ∧ x_3 = rdD ls line ∧ x_5 = vol ∧ x_6 = ls) ∧ ((x != (0 : Int)) = false → ((0 : Int) ≤ line ∧ line < (↑x_2.length : Int)) ∧ line.toNat < x_2.length ∧ ∀ (y : List Int), x_2[line.toNat]? = some y → ∃ (x : List Int), ∃ (x_3 : Int), ∃ (x_4 : Int), ∃ (x_5 : List (List Int)), (y = x ∧ (0 : Int) = x_3 ∧ x_1 = x_4 ∧ x_2 ≍ x_5 ∧ True) ∧ x_3 = mayD ls.length line ∧ x = rdD ls line ∧ x_4 = vol ∧ x_5 = ls)) = _) ?_
    refine ⟨trivial, ?_⟩
    rintro _ (vol : Int) (ls : List LN) ⟨rfl, rfl, rfl⟩
    by_cases h : 0 ≤ line ∧ line < ls.length
    · rw [mayD_in h, rdD_in h]
      refine ⟨(fun h => by cases h), fun _ => ⟨h, by omega, fun y hy => ⟨_, _, _, _, ⟨rfl, rfl, rfl, HEq.rfl, trivial⟩, rfl, (getD_of hy).symm, rfl, rfl⟩⟩⟩
    · rw [mayD_out h, rdD_out h]
      exact ⟨fun _ => ⟨_, _, _, _, ⟨rfl, rfl, rfl, HEq.rfl, trivial⟩, rfl, rfl, rfl, rfl⟩, fun h => by cases h⟩
  case b =>
    intro line hp hr hh
    refine ⟨noLoop, ?_⟩
    refine Eq.mp (by kernel_rfl : (True ∧ ∀ (x : Int), x = (1 : Int) → ((x != (0 : Int)) = true → ∃ (x_1 : List Int), ∃ (x_2 : Int), (List.replicate (8 : Nat) (0 : Int) = x_1 ∧ x = x_2 ∧ True) ∧ x_2 = (1 : Int) ∧ x_1 = Z8) ∧ ((x != (0 : Int)) = false → False)) = _) ?_
    refine ⟨trivial, ?_⟩
    rintro _ rfl
    exact ⟨fun _ => ⟨_, _, ⟨rfl, rfl, trivial⟩, rfl, rfl⟩, fun h => by cases h⟩
def write1 : PT where
  ps := [.one (.p 0 0), .one I, .agg [A]]
  rg := dvR
  na := 2
  rs := [.one I]
  out := dvR
  nx := 2
  pre := fun _ => True
  post := fun (line, l, vol, ls, _) (e, vol', ls', _) => e = mayD ls.length line ∧ vol' = vol ∧ ls' = wrD ls line l
def write2 : PT where
  ps := [.one .nil, .one I, .agg [A]]
  rg := []
  na := 0
  rs := [.one I]
  out := []
  nx := 0
  pre := fun _ => True
  post := fun _ (e, _) => e = 1
theorem v27 : Valid Try.prog 27 (.full (callsP [write1, write2])) := by
  refine valid_Ps mixed Tbl_ok L1_ok Try.func27 call27 ⟨?a, ?b, trivial⟩
  case a =>
    intro (line : Int) (l : LN) (vol : Int) (ls : List LN) hp hr hh
    refine ⟨noLoop, ?_⟩
    refine Eq.mp (by kernel_rfl : (True ∧ ∀ (x x_1 : Int) (x_2 : List (List Int)), x = mayD ls.length line ∧ x_1 = vol ∧ x_2 = ls → ((x != (0 : Int)) = true → ∃ (x_3 : Int), ∃ (x_4 : Int), ∃ (x_5 : List (List Int)), (x = x_3 ∧ x_1 = x_4 ∧ x_2 ≍ x_5 ∧ True) ∧ x_3 = mayD ls.length line ∧ x_4 = vol ∧ x_5 = wrD ls line l) ∧ ((x != (0 : Int)) = false → ((0 : Int) ≤ line ∧ line < (↑x_2.length : Int)) ∧ line.toNat < x_2.length ∧ ∀ (z : List Int), x_2[line.toNat]? = some z → ∃ (x : Int), ∃ (x_3 : Int), ∃ (x_4 : List (List Int)), ((0 : Int) = x ∧ x_1 = x_3 ∧ x_2.set line.toNat l ≍ x_4 ∧ True) ∧ x = mayD ls.length line ∧ x_3 = vol ∧ x_4 = wrD ls line l)) = _) ?_
    refine ⟨trivial, ?_⟩
    rintro _ (vol : Int) (ls : List LN) ⟨rfl, rfl, rfl⟩
    by_cases h : 0 ≤ line ∧ line < ls.length
    · rw [mayD_in h, wrD_in h]
      exact ⟨(fun h => by cases h), fun _ => ⟨h, by omega, fun z hz => ⟨_, _, _, ⟨rfl, rfl, HEq.rfl, trivial⟩, rfl, rfl, rfl⟩⟩⟩
    · rw [mayD_out h, wrD_out h]
      exact ⟨fun _ => ⟨_, _, _, ⟨rfl, rfl, HEq.rfl, trivial⟩, rfl, rfl, rfl⟩, fun h => by cases h⟩
  case b =>
    intro line l hp hr hh
    refine ⟨noLoop, ?_⟩
    refine Eq.mp (by kernel_rfl : (True ∧ ∀ (x : Int), x = (1 : Int) → ((x != (0 : Int)) = true → ∃ (x_1 : Int), (x = x_1 ∧ True) ∧ x_1 = (1 : Int)) ∧ ((x != (0 : Int)) = false → False)) = _) ?_
    refine ⟨trivial, ?_⟩
    rintro _ rfl
    exact ⟨fun _ => ⟨_, ⟨rfl, trivial⟩, rfl⟩, fun h => by cases h⟩
def fail1 : PT where
  ps := [.one (.p 0 0)]
  rg := dvR
  na := 2
  rs := []
  out := dvR
  nx := 2
  pre := fun (vol, ls, _) => 0 ≤ vol ∧ vol ≤ ls.length
  post := fun (vol, ls, _) (vol', ls', _) => vol' = vol ∧ ls' = List.replicate vol.toNat Z8 ++ ls.drop vol.toNat
def fail2 : PT where
  ps := [.one .nil]
  rg := []
  na := 0
  rs := []
  out := []
  nx := 0
  pre := fun _ => True
  post := fun _ _ => True
theorem v37 : Valid Try.prog 37 (.full (callsP [fail1, fail2])) := by
  refine valid_Ps mixed Tbl_ok L1_ok Try.func37 call37 ⟨?a, ?b, trivial⟩
  case a =>
    intro (vol : Int) (ls : List LN) hp hr hh
    refine ⟨noLoop, ?_⟩
    refine Eq.mp (by kernel_rfl : (((0 : Int) ≤ vol ∧ vol ≤ (↑ls.length : Int)) ∧ (0 : Nat) + vol.toNat ≤ ls.length ∧ ∃ (x : Int), ∃ (x_1 : List (List Int)), (vol = x ∧ List.take (0 : Nat) ls ++ List.replicate vol.toNat (List.replicate (8 : Nat) (0 : Int)) ++ List.drop ((0 : Nat) + vol.toNat) ls ≍ x_1 ∧ True) ∧ x = vol ∧ x_1 = List.replicate vol.toNat Z8 ++ List.drop vol.toNat ls) = _) ?_
    have hp : 0 ≤ vol ∧ vol ≤ ls.length := hp
    refine ⟨hp, by omega, _, _, ⟨rfl, HEq.rfl, trivial⟩, rfl, ?_⟩
    simp only [List.take_zero, List.nil_append, Nat.zero_add]
  case b =>
    intro hp hr hh
    refine ⟨noLoop, ?_⟩
    refine Eq.mp (by kernel_rfl : (True ∧ True) = _) ?_
    exact ⟨trivial, trivial⟩
def clone1 : PT where
  ps := [.one (.s 0)]
  rg := [(0, .own 34 shW)]
  na := 1
  rs := [.one (.s 1)]
  out := [(0, .own 34 shW), (1, .own 34 shW)]
  nx := 2
  pre := fun (ls, _) => ls.length * 64 ≤ 140737488355328
  post := fun (ls, _) (a, b, _) => a = ls ∧ b = ls
theorem v38 : Valid Try.prog 38 (.full clone1.call) := by
  refine valid_P mixed Tbl_ok L1_ok Try.func38 call38 ?_
  intro (ls : List LN) hp hr hh
  refine ⟨noLoop, ?_⟩
  refine Eq.mp (by kernel_rfl : ((ls = ([] : List (List Int)) → ∃ (x : List (List Int)), ∃ (x_1 : List (List Int)), (ls ≍ x ∧ x_1 = ([] : List (List Int)) ∧ True) ∧ x = ls ∧ x_1 = ls) ∧ (([] : List (List Int)).length + ls.length) * (64 : Nat) ≤ (140737488355328 : Nat) ∧ ∃ (x : List (List Int)), ∃ (x_1 : List (List Int)), (ls ≍ x ∧ ([] : List (List Int)) ++ ls ≍ x_1 ∧ True) ∧ x = ls ∧ x_1 = ls) = _) ?_
  have hp : ls.length * 64 ≤ 140737488355328 := hp
  refine ⟨?_, by simpa using hp, _, _, ⟨HEq.rfl, HEq.rfl, trivial⟩, rfl, rfl⟩
  rintro rfl
  exact ⟨_, _, ⟨HEq.rfl, rfl, trivial⟩, rfl, rfl⟩
abbrev L2 : List (Nat × Spec) := (14, .full (callsP [read1, read2])) :: (27, .full (callsP [write1, write2])) :: (37, .full (callsP [fail1, fail2])) :: (38, .full clone1.call) :: L1
theorem L2_all : ∀ p ∈ L2, Valid Try.prog p.1 p.2 := vcons v14 (vcons v27 (vcons v37 (vcons v38 L1_all)))
theorem L2_ok : ∀ f S, spL L2 f = some S → Valid Try.prog f S := spL_ok L2_all
def image1 : PT where
  ps := [.one (.p 0 0)]
  rg := dvR
  na := 2
  rs := [.one (.s 2)]
  out := dvR ++ [(2, .own 34 shW)]
  nx := 3
  pre := fun (_, ls, _) => ls.length * 64 ≤ 140737488355328
  post := fun (vol, ls, _) (vol', ls', b, _) => vol' = vol ∧ ls' = ls ∧ b = ls
def image2 : PT where
  ps := [.one .nil]
  rg := []
  na := 0
  rs := [.one (.s 0)]
  out := [(0, .own 34 shW)]
  nx := 1
  pre := fun _ => True
  post := fun _ (b, _) => b = []
theorem v19 : Valid Try.prog 19 (.full (callsP [image1, image2])) := by
  refine valid_Ps mixed Tbl_ok L2_ok Try.func19 call19 ⟨?a, ?b, trivial⟩
  case a =>
    intro (vol : Int) (ls : List LN) hp hr hh
    refine ⟨noLoop, ?_⟩
    refine Eq.mp (by kernel_rfl : (ls.length * (64 : Nat) ≤ (140737488355328 : Nat) ∧ ∀ (x x_1 : List (List Int)), x = ls ∧ x_1 = ls → ∃ (x_2 : Int), ∃ (x_3 : List (List Int)), ∃ (x_4 : List (List Int)), (vol = x_2 ∧ x ≍ x_3 ∧ x_1 ≍ x_4 ∧ True) ∧ x_2 = vol ∧ x_3 = ls ∧ x_4 = ls) = _) ?_
    refine ⟨hp, ?_⟩
    rintro _ _ ⟨rfl, rfl⟩
    exact ⟨_, _, _, ⟨rfl, HEq.rfl, HEq.rfl, trivial⟩, rfl, rfl, rfl⟩
  case b =>
    intro hp hr hh
    refine ⟨noLoop, ?_⟩
    refine Eq.mp (by kernel_rfl : (∃ (x : List (List Int)), (x = ([] : List (List Int)) ∧ True) ∧ x = ([] : List (List Int))) = _) ?_
    exact ⟨_, ⟨rfl, trivial⟩, rfl⟩
theorem v8 : Valid Try.prog 8 (.full (inl Tbl (spL L2) Try.f8 noLp)) := valid_inl mixed Tbl_ok L2_ok Try.func8 call8 noLp
end Go.Proofs.Ytgaiedcmohpiaaa.V
