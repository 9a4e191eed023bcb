/-
  An Op on the map's world; all Ops of a transaction.
-/
import Derived.Test.YtigbhlkafmpgmaaWorld
import Derived.WideShapes4
namespace Go.Proofs.Ytigbhlkafmpgmaa
open Go.RowKit Go.Maps
attribute [local go_sem ↓] Go.wp_at_zero Go.wp_at_succ

/-- What an Op does that names a word that there is: whether there was room; the words, the notes, what is told. -/
def stepS (room : Int) (cur : List Int) (n : Nat) (tells : List Int) (o : Op) : Bool × List Int × Nat × List Int :=
  if o.k = 1 then (true, cur, n, tells ++ [cur.getD o.w.toNat 0])
  else if o.k = 4 ∧ ¬ cur.getD o.w.toNat 0 = 0 then (true, cur, n, tells ++ [0])
  else if room ≤ n then (false, cur, n, tells)
  else if o.k = 2 then (true, cur.set o.w.toNat o.v, n + 1, tells)
  else if o.k = 3 then (true, cur.set o.w.toNat (IntKind.u64.wrap (o.v + cur.getD o.w.toNat 0)), n + 1, tells ++ [IntKind.u64.wrap (o.v + cur.getD o.w.toNat 0)])
  else (true, cur.set o.w.toNat o.v, n + 1, tells ++ [1])
set_option linter.unusedVariables false in
set_option maxRecDepth 100000 in
set_option maxHeartbeats 8000000 in
theorem op_read (w0 : World) (b1 : Nat) (ob : Obj) (p q : Nat) (vm : Value) (m : List Int) (room : Int) (w : World) (cur : List Int) (n : Nat) (vt : Value) (tells : List Int) (nm : Nat) (D : DataW Unit) (i : Nat) (v c : Int) (hi : i < m.length) (h1000 : m.length ≤ 1000) (hroom : room ≤ 1000) (hv : (Lit.int .u64 v).wf = true) (hc : cur[i]? = some c) (h : WAt w0 b1 ob p q vm m room w cur n vt tells nm D) (hm : Rds w0 1 vm m.length (encU m)) (hl : tells.length ≤ 900) (hnm : nm ≤ 900) :
    Calls Try.prog 24 #[.pointer (some ⟨p, 0, none⟩), .agg #[.int .i64 1, .int .i64 i, .int .u64 v]] w fun e w' => e = .returned (.bool true) ∧ ∃ vt' nm' D', nm' ≤ nm + 1 ∧ WAt w0 b1 ob p q vm m room w' cur n vt' (tells ++ [c]) nm' D' := by
  have hA := h.below (Below.al (Below.refl _ w) (.cells #[.int .i64 1, .int .i64 i, .int .u64 v] 39))
  have HA := Lib.hid hA; have HM := Lib.hid hm; have HC := Lib.hid hc
  clear h hm hA hc
  go_enter Try.func24, Try.ntmps24
  go_wp2_with fail
  refine (get_any w0 b1 ob p q vm m room _ cur n vt tells nm D i c hi h1000 HC.out HA.out HM.out).mono ?_
  rintro e w1 ⟨rfl, rfl⟩
  go_wp2_with fail
  refine (tell_any w0 b1 ob p q vm m room _ cur n vt tells nm D c HA.out (by omega)).mono ?_
  rintro e w3 ⟨rfl, vt', hT⟩
  have HT := Lib.hid hT
  clear hT
  go_wp2
  go_ret
  exact ⟨rfl, vt', nm, D, by omega, HT.out⟩
set_option linter.unusedVariables false in
set_option maxRecDepth 100000 in
set_option maxHeartbeats 8000000 in
theorem op_write_no (w0 : World) (b1 : Nat) (ob : Obj) (p q : Nat) (vm : Value) (m : List Int) (room : Int) (w : World) (cur : List Int) (n : Nat) (vt : Value) (tells : List Int) (nm : Nat) (D : DataW Unit) (i : Nat) (v c : Int) (hi : i < m.length) (h1000 : m.length ≤ 1000) (hroom : room ≤ 1000) (hv : (Lit.int .u64 v).wf = true) (hc : cur[i]? = some c) (hn : room ≤ n) (h : WAt w0 b1 ob p q vm m room w cur n vt tells nm D) (hm : Rds w0 1 vm m.length (encU m)) (hl : tells.length ≤ 900) (hnm : nm ≤ 900) :
    Calls Try.prog 24 #[.pointer (some ⟨p, 0, none⟩), .agg #[.int .i64 2, .int .i64 i, .int .u64 v]] w fun e w' => e = .returned (.bool false) ∧ ∃ vt' nm' D', nm' ≤ nm + 1 ∧ WAt w0 b1 ob p q vm m room w' cur n vt' tells nm' D' := by
  have hA := h.below (Below.al (Below.refl _ w) (.cells #[.int .i64 2, .int .i64 i, .int .u64 v] 39))
  have HA := Lib.hid hA; have HM := Lib.hid hm; have HC := Lib.hid hc
  clear h hm hA hc
  go_enter Try.func24, Try.ntmps24
  go_wp2_with fail
  refine (get_any w0 b1 ob p q vm m room _ cur n vt tells nm D i c hi h1000 HC.out HA.out HM.out).mono ?_
  rintro e w1 ⟨rfl, rfl⟩
  go_wp2_with fail
  refine (put_no w0 b1 ob p q vm m room _ cur n vt tells nm D i v hn HA.out).mono ?_
  rintro e w2 ⟨rfl, hP⟩
  have HP := Lib.hid hP
  clear hP
  go_wp2
  go_ret
  exact ⟨rfl, vt, nm, D, by omega, HP.out⟩
set_option linter.unusedVariables false in
set_option maxRecDepth 100000 in
set_option maxHeartbeats 8000000 in
theorem op_write (w0 : World) (b1 : Nat) (ob : Obj) (p q : Nat) (vm : Value) (m : List Int) (room : Int) (w : World) (cur : List Int) (n : Nat) (vt : Value) (tells : List Int) (nm : Nat) (D : DataW Unit) (i : Nat) (v c : Int) (hi : i < m.length) (h1000 : m.length ≤ 1000) (hroom : room ≤ 1000) (hv : (Lit.int .u64 v).wf = true) (hc : cur[i]? = some c) (hn : ¬ room ≤ n) (h : WAt w0 b1 ob p q vm m room w cur n vt tells nm D) (hm : Rds w0 1 vm m.length (encU m)) (hl : tells.length ≤ 900) (hnm : nm ≤ 900) :
    Calls Try.prog 24 #[.pointer (some ⟨p, 0, none⟩), .agg #[.int .i64 2, .int .i64 i, .int .u64 v]] w fun e w' => e = .returned (.bool true) ∧ ∃ vt' nm' D', nm' ≤ nm + 1 ∧ WAt w0 b1 ob p q vm m room w' (cur.set i v) (n + 1) vt' tells nm' D' := by
  have hA := h.below (Below.al (Below.refl _ w) (.cells #[.int .i64 2, .int .i64 i, .int .u64 v] 39))
  have HA := Lib.hid hA; have HM := Lib.hid hm; have HC := Lib.hid hc
  clear h hm hA hc
  go_enter Try.func24, Try.ntmps24
  go_wp2_with fail
  refine (get_any w0 b1 ob p q vm m room _ cur n vt tells nm D i c hi h1000 HC.out HA.out HM.out).mono ?_
  rintro e w1 ⟨rfl, rfl⟩
  go_wp2_with fail
  refine (put_yes w0 b1 ob p q vm m room _ cur n vt tells nm D i v (by omega) hroom hi h1000 hv (by omega) HA.out).mono ?_
  rintro e w2 ⟨rfl, D', hP⟩
  have HP := Lib.hid hP
  clear hP
  go_wp2
  go_ret
  exact ⟨rfl, vt, nm + 1, D', by omega, HP.out⟩
set_option linter.unusedVariables false in
set_option maxRecDepth 100000 in
set_option maxHeartbeats 8000000 in
theorem op_add_no (w0 : World) (b1 : Nat) (ob : Obj) (p q : Nat) (vm : Value) (m : List Int) (room : Int) (w : World) (cur : List Int) (n : Nat) (vt : Value) (tells : List Int) (nm : Nat) (D : DataW Unit) (i : Nat) (v c : Int) (hi : i < m.length) (h1000 : m.length ≤ 1000) (hroom : room ≤ 1000) (hv : (Lit.int .u64 v).wf = true) (hc : cur[i]? = some c) (hn : room ≤ n) (h : WAt w0 b1 ob p q vm m room w cur n vt tells nm D) (hm : Rds w0 1 vm m.length (encU m)) (hl : tells.length ≤ 900) (hnm : nm ≤ 900) :
    Calls Try.prog 24 #[.pointer (some ⟨p, 0, none⟩), .agg #[.int .i64 3, .int .i64 i, .int .u64 v]] w fun e w' => e = .returned (.bool false) ∧ ∃ vt' nm' D', nm' ≤ nm + 1 ∧ WAt w0 b1 ob p q vm m room w' cur n vt' tells nm' D' := by
  have hA := h.below (Below.al (Below.refl _ w) (.cells #[.int .i64 3, .int .i64 i, .int .u64 v] 39))
  have HA := Lib.hid hA; have HM := Lib.hid hm; have HC := Lib.hid hc
  clear h hm hA hc
  go_enter Try.func24, Try.ntmps24
  go_wp2_with fail
  refine (get_any w0 b1 ob p q vm m room _ cur n vt tells nm D i c hi h1000 HC.out HA.out HM.out).mono ?_
  rintro e w1 ⟨rfl, rfl⟩
  go_wp2_with fail
  refine (put_no w0 b1 ob p q vm m room _ cur n vt tells nm D i (IntKind.u64.wrap (v + c)) hn HA.out).mono ?_
  rintro e w2 ⟨rfl, hP⟩
  have HP := Lib.hid hP
  clear hP
  go_wp2
  go_ret
  exact ⟨rfl, vt, nm, D, by omega, HP.out⟩
set_option linter.unusedVariables false in
set_option maxRecDepth 100000 in
set_option maxHeartbeats 8000000 in
theorem op_add (w0 : World) (b1 : Nat) (ob : Obj) (p q : Nat) (vm : Value) (m : List Int) (room : Int) (w : World) (cur : List Int) (n : Nat) (vt : Value) (tells : List Int) (nm : Nat) (D : DataW Unit) (i : Nat) (v c : Int) (hi : i < m.length) (h1000 : m.length ≤ 1000) (hroom : room ≤ 1000) (hv : (Lit.int .u64 v).wf = true) (hc : cur[i]? = some c) (hn : ¬ room ≤ n) (h : WAt w0 b1 ob p q vm m room w cur n vt tells nm D) (hm : Rds w0 1 vm m.length (encU m)) (hl : tells.length ≤ 900) (hnm : nm ≤ 900) :
    Calls Try.prog 24 #[.pointer (some ⟨p, 0, none⟩), .agg #[.int .i64 3, .int .i64 i, .int .u64 v]] w fun e w' => e = .returned (.bool true) ∧ ∃ vt' nm' D', nm' ≤ nm + 1 ∧ WAt w0 b1 ob p q vm m room w' (cur.set i (IntKind.u64.wrap (v + c))) (n + 1) vt' (tells ++ [(IntKind.u64.wrap (v + c))]) nm' D' := by
  have hA := h.below (Below.al (Below.refl _ w) (.cells #[.int .i64 3, .int .i64 i, .int .u64 v] 39))
  have HA := Lib.hid hA; have HM := Lib.hid hm; have HC := Lib.hid hc
  clear h hm hA hc
  go_enter Try.func24, Try.ntmps24
  go_wp2_with fail
  refine (get_any w0 b1 ob p q vm m room _ cur n vt tells nm D i c hi h1000 HC.out HA.out HM.out).mono ?_
  rintro e w1 ⟨rfl, rfl⟩
  go_wp2_with fail
  refine (put_yes w0 b1 ob p q vm m room _ cur n vt tells nm D i (IntKind.u64.wrap (v + c)) (by omega) hroom hi h1000 (Go.WideShapes.wf_wrap .u64 (v + c)) (by omega) HA.out).mono ?_
  rintro e w2 ⟨rfl, D', hP⟩
  have HP := Lib.hid hP
  clear hP
  go_wp2_with fail
  refine (tell_any w0 b1 ob p q vm m room _ (cur.set i (IntKind.u64.wrap (v + c))) (n + 1) vt tells (nm + 1) D' (IntKind.u64.wrap (v + c)) HP.out (by omega)).mono ?_
  rintro e w3 ⟨rfl, vt', hT⟩
  have HT := Lib.hid hT
  clear hT
  go_wp2
  go_ret
  exact ⟨rfl, vt', nm + 1, D', by omega, HT.out⟩
set_option linter.unusedVariables false in
set_option maxRecDepth 100000 in
set_option maxHeartbeats 8000000 in
theorem op_take_none (w0 : World) (b1 : Nat) (ob : Obj) (p q : Nat) (vm : Value) (m : List Int) (room : Int) (w : World) (cur : List Int) (n : Nat) (vt : Value) (tells : List Int) (nm : Nat) (D : DataW Unit) (i : Nat) (v c : Int) (hi : i < m.length) (h1000 : m.length ≤ 1000) (hroom : room ≤ 1000) (hv : (Lit.int .u64 v).wf = true) (hc : cur[i]? = some c) (h0 : ¬ c = 0) (h : WAt w0 b1 ob p q vm m room w cur n vt tells nm D) (hm : Rds w0 1 vm m.length (encU m)) (hl : tells.length ≤ 900) (hnm : nm ≤ 900) :
    Calls Try.prog 24 #[.pointer (some ⟨p, 0, none⟩), .agg #[.int .i64 4, .int .i64 i, .int .u64 v]] w fun e w' => e = .returned (.bool true) ∧ ∃ vt' nm' D', nm' ≤ nm + 1 ∧ WAt w0 b1 ob p q vm m room w' cur n vt' (tells ++ [0]) nm' D' := by
  have hA := h.below (Below.al (Below.refl _ w) (.cells #[.int .i64 4, .int .i64 i, .int .u64 v] 39))
  have HA := Lib.hid hA; have HM := Lib.hid hm; have HC := Lib.hid hc
  clear h hm hA hc
  go_enter Try.func24, Try.ntmps24
  go_wp2_with fail
  refine (get_any w0 b1 ob p q vm m room _ cur n vt tells nm D i c hi h1000 HC.out HA.out HM.out).mono ?_
  rintro e w1 ⟨rfl, rfl⟩
  have h0' : (c != 0) = true := by simpa using h0
  go_wp2_with fail
  refine (tell_any w0 b1 ob p q vm m room _ cur n vt tells nm D 0 HA.out (by omega)).mono ?_
  rintro e w3 ⟨rfl, vt', hT⟩
  have HT := Lib.hid hT
  clear hT
  go_wp2
  go_ret
  exact ⟨rfl, vt', nm, D, by omega, HT.out⟩
set_option linter.unusedVariables false in
set_option maxRecDepth 100000 in
set_option maxHeartbeats 8000000 in
theorem op_take_no (w0 : World) (b1 : Nat) (ob : Obj) (p q : Nat) (vm : Value) (m : List Int) (room : Int) (w : World) (cur : List Int) (n : Nat) (vt : Value) (tells : List Int) (nm : Nat) (D : DataW Unit) (i : Nat) (v c : Int) (hi : i < m.length) (h1000 : m.length ≤ 1000) (hroom : room ≤ 1000) (hv : (Lit.int .u64 v).wf = true) (hc : cur[i]? = some c) (h0 : c = 0) (hn : room ≤ n) (h : WAt w0 b1 ob p q vm m room w cur n vt tells nm D) (hm : Rds w0 1 vm m.length (encU m)) (hl : tells.length ≤ 900) (hnm : nm ≤ 900) :
    Calls Try.prog 24 #[.pointer (some ⟨p, 0, none⟩), .agg #[.int .i64 4, .int .i64 i, .int .u64 v]] w fun e w' => e = .returned (.bool false) ∧ ∃ vt' nm' D', nm' ≤ nm + 1 ∧ WAt w0 b1 ob p q vm m room w' cur n vt' tells nm' D' := by
  have hA := h.below (Below.al (Below.refl _ w) (.cells #[.int .i64 4, .int .i64 i, .int .u64 v] 39))
  have HA := Lib.hid hA; have HM := Lib.hid hm; have HC := Lib.hid hc
  clear h hm hA hc
  go_enter Try.func24, Try.ntmps24
  go_wp2_with fail
  refine (get_any w0 b1 ob p q vm m room _ cur n vt tells nm D i c hi h1000 HC.out HA.out HM.out).mono ?_
  rintro e w1 ⟨rfl, rfl⟩
  subst h0
  go_wp2_with fail
  refine (put_no w0 b1 ob p q vm m room _ cur n vt tells nm D i v hn HA.out).mono ?_
  rintro e w2 ⟨rfl, hP⟩
  have HP := Lib.hid hP
  clear hP
  go_wp2
  go_ret
  exact ⟨rfl, vt, nm, D, by omega, HP.out⟩
set_option linter.unusedVariables false in
set_option maxRecDepth 100000 in
set_option maxHeartbeats 8000000 in
theorem op_take (w0 : World) (b1 : Nat) (ob : Obj) (p q : Nat) (vm : Value) (m : List Int) (room : Int) (w : World) (cur : List Int) (n : Nat) (vt : Value) (tells : List Int) (nm : Nat) (D : DataW Unit) (i : Nat) (v c : Int) (hi : i < m.length) (h1000 : m.length ≤ 1000) (hroom : room ≤ 1000) (hv : (Lit.int .u64 v).wf = true) (hc : cur[i]? = some c) (h0 : c = 0) (hn : ¬ room ≤ n) (h : WAt w0 b1 ob p q vm m room w cur n vt tells nm D) (hm : Rds w0 1 vm m.length (encU m)) (hl : tells.length ≤ 900) (hnm : nm ≤ 900) :
    Calls Try.prog 24 #[.pointer (some ⟨p, 0, none⟩), .agg #[.int .i64 4, .int .i64 i, .int .u64 v]] w fun e w' => e = .returned (.bool true) ∧ ∃ vt' nm' D', nm' ≤ nm + 1 ∧ WAt w0 b1 ob p q vm m room w' (cur.set i v) (n + 1) vt' (tells ++ [1]) nm' D' := by
  have hA := h.below (Below.al (Below.refl _ w) (.cells #[.int .i64 4, .int .i64 i, .int .u64 v] 39))
  have HA := Lib.hid hA; have HM := Lib.hid hm; have HC := Lib.hid hc
  clear h hm hA hc
  go_enter Try.func24, Try.ntmps24
  go_wp2_with fail
  refine (get_any w0 b1 ob p q vm m room _ cur n vt tells nm D i c hi h1000 HC.out HA.out HM.out).mono ?_
  rintro e w1 ⟨rfl, rfl⟩
  subst h0
  go_wp2_with fail
  refine (put_yes w0 b1 ob p q vm m room _ cur n vt tells nm D i v (by omega) hroom hi h1000 hv (by omega) HA.out).mono ?_
  rintro e w2 ⟨rfl, D', hP⟩
  have HP := Lib.hid hP
  clear hP
  go_wp2_with fail
  refine (tell_any w0 b1 ob p q vm m room _ (cur.set i v) (n + 1) vt tells (nm + 1) D' 1 HP.out (by omega)).mono ?_
  rintro e w3 ⟨rfl, vt', hT⟩
  have HT := Lib.hid hT
  clear hT
  go_wp2
  go_ret
  exact ⟨rfl, vt', nm + 1, D', by omega, HT.out⟩
theorem op_any (w0 : World) (b1 : Nat) (ob : Obj) (p q : Nat) (vm : Value) (m : List Int) (room : Int) (w : World) (cur : List Int) (n : Nat) (vt : Value) (tells : List Int) (nm : Nat) (D : DataW Unit) (i : Nat) (k v : Int) (hi : i < m.length) (h1000 : m.length ≤ 1000) (hroom : room ≤ 1000) (hk : 1 ≤ k ∧ k ≤ 4) (hv : (Lit.int .u64 v).wf = true) (h : WAt w0 b1 ob p q vm m room w cur n vt tells nm D) (hm : Rds w0 1 vm m.length (encU m)) (hl : tells.length ≤ 900) (hnm : nm ≤ 900) :
    Calls Try.prog 24 #[.pointer (some ⟨p, 0, none⟩), .agg #[.int .i64 k, .int .i64 i, .int .u64 v]] w fun e w' => e = .returned (.bool (stepS room cur n tells ⟨k, i, v⟩).1) ∧ ∃ vt' nm' D', nm' ≤ nm + 1 ∧ WAt w0 b1 ob p q vm m room w' (stepS room cur n tells ⟨k, i, v⟩).2.1 (stepS room cur n tells ⟨k, i, v⟩).2.2.1 vt' (stepS room cur n tells ⟨k, i, v⟩).2.2.2 nm' D' := by
  obtain ⟨c, hc⟩ : ∃ c, cur[i]? = some c := ⟨_, List.getElem?_eq_getElem (by rw [h.rel.len]; exact hi)⟩
  have hcd : cur.getD i 0 = c := by rw [List.getD_eq_getElem?_getD, hc]; rfl
  have hti : ((i : Int)).toNat = i := Int.toNat_natCast i
  rcases (by omega : k = 1 ∨ k = 2 ∨ k = 3 ∨ k = 4) with rfl | rfl | rfl | rfl
  · rw [show stepS room cur n tells ⟨1, i, v⟩ = (true, cur, n, tells ++ [c]) by simp only [stepS, hti, hcd]; simp]
    exact op_read w0 b1 ob p q vm m room w cur n vt tells nm D i v c hi h1000 hroom hv hc h hm hl hnm
  · by_cases hn : room ≤ n
    · rw [show stepS room cur n tells ⟨2, i, v⟩ = (false, cur, n, tells) by simp only [stepS, hti, hcd]; simp [hn]]
      exact op_write_no w0 b1 ob p q vm m room w cur n vt tells nm D i v c hi h1000 hroom hv hc hn h hm hl hnm
    · rw [show stepS room cur n tells ⟨2, i, v⟩ = (true, cur.set i v, n + 1, tells) by simp only [stepS, hti, hcd]; simp [hn]]
      exact op_write w0 b1 ob p q vm m room w cur n vt tells nm D i v c hi h1000 hroom hv hc hn h hm hl hnm
  · by_cases hn : room ≤ n
    · rw [show stepS room cur n tells ⟨3, i, v⟩ = (false, cur, n, tells) by simp only [stepS, hti, hcd]; simp [hn]]
      exact op_add_no w0 b1 ob p q vm m room w cur n vt tells nm D i v c hi h1000 hroom hv hc hn h hm hl hnm
    · rw [show stepS room cur n tells ⟨3, i, v⟩ = (true, cur.set i (IntKind.u64.wrap (v + c)), n + 1, tells ++ [IntKind.u64.wrap (v + c)]) by simp only [stepS, hti, hcd]; simp [hn]]
      exact op_add w0 b1 ob p q vm m room w cur n vt tells nm D i v c hi h1000 hroom hv hc hn h hm hl hnm
  · by_cases h0 : c = 0
    · by_cases hn : room ≤ n
      · rw [show stepS room cur n tells ⟨4, i, v⟩ = (false, cur, n, tells) by simp only [stepS, hti, hcd]; simp [hn, h0]]
        exact op_take_no w0 b1 ob p q vm m room w cur n vt tells nm D i v c hi h1000 hroom hv hc h0 hn h hm hl hnm
      · rw [show stepS room cur n tells ⟨4, i, v⟩ = (true, cur.set i v, n + 1, tells ++ [1]) by simp only [stepS, hti, hcd]; simp [hn, h0]]
        exact op_take w0 b1 ob p q vm m room w cur n vt tells nm D i v c hi h1000 hroom hv hc h0 hn h hm hl hnm
    · rw [show stepS room cur n tells ⟨4, i, v⟩ = (true, cur, n, tells ++ [0]) by simp only [stepS, hti, hcd]; simp [h0]]
      exact op_take_none w0 b1 ob p q vm m room w cur n vt tells nm D i v c hi h1000 hroom hv hc h0 h hm hl hnm
/-- All Ops, one behind the other: the code (0: all were done), the words, what is told. -/
def runS (room : Int) (len : Nat) : List Op → List Int → Nat → List Int → Int × List Int × List Int
  | [], cur, _, tells => (0, cur, tells)
  | o :: r, cur, n, tells => if o.w < 0 ∨ (len : Int) ≤ o.w then (103, cur, tells) else
    match stepS room cur n tells o with
    | (true, cur', n', tells') => runS room len r cur' n' tells'
    | (false, cur', _, tells') => (102, cur', tells')
def endC (c : Int) (ab : Bool) : Int := if c = 0 then (if ab then 104 else 101) else c
theorem stepS_len (room : Int) (cur : List Int) (n : Nat) (tells : List Int) (o : Op) : (stepS room cur n tells o).2.2.2.length ≤ tells.length + 1 := by
  unfold stepS
  repeat' split
  all_goals simp
theorem runS_step (room : Int) (len : Nat) (o : Op) (r : List Op) (cur : List Int) (n : Nat) (tells : List Int) (hw : ¬ (o.w < 0 ∨ (len : Int) ≤ o.w)) (h : (stepS room cur n tells o).1 = true) :
    runS room len (o :: r) cur n tells = runS room len r (stepS room cur n tells o).2.1 (stepS room cur n tells o).2.2.1 (stepS room cur n tells o).2.2.2 := by
  rw [runS, if_neg hw]
  generalize stepS room cur n tells o = st at h ⊢
  obtain ⟨b, c, m, t⟩ := st
  dsimp only at h
  subst h
  rfl
theorem runS_full (room : Int) (len : Nat) (o : Op) (r : List Op) (cur : List Int) (n : Nat) (tells : List Int) (hw : ¬ (o.w < 0 ∨ (len : Int) ≤ o.w)) (h : (stepS room cur n tells o).1 = false) :
    runS room len (o :: r) cur n tells = (102, (stepS room cur n tells o).2.1, (stepS room cur n tells o).2.2.2) := by
  rw [runS, if_neg hw]
  generalize stepS room cur n tells o = st at h ⊢
  obtain ⟨b, c, m, t⟩ := st
  dsimp only at h
  subst h
  rfl
end Go.Proofs.Ytigbhlkafmpgmaa
