/-
  Lists alike.
-/
import Derived.Test.YtejeghfddnbhaaaLines
import Derived.Test.YtejeghfddnbhaaaRows
import Derived.Deep.QuietTactic
import Derived.BigQuiet
import Derived.WalkSmall
import Derived.Deep.RegionLaw
namespace Go.Proofs.Ytejeghfddnbhaaa
open Go.RowKit
attribute [local go_sem ↓] Go.wp_at_zero Go.wp_at_succ
theorem info27s : (Try.prog.info? 27).map (·.size) = some 1 := by kernel_rfl
theorem run_neq_Ln (w : World) (m m' : Ln) : (binOp .neq 68 (.agg #[.int .u64 m.d0, .int .u64 m.d1, .int .u64 m.d2, .int .u64 m.d3, .int .u64 m.d4, .int .u64 m.d5, .int .u64 m.d6, .int .u64 m.d7]) (.agg #[.int .u64 m'.d0, .int .u64 m'.d1, .int .u64 m'.d2, .int .u64 m'.d3, .int .u64 m'.d4, .int .u64 m'.d5, .int .u64 m'.d6, .int .u64 m'.d7])).run Try.prog w = .ok (.bool (!eqLn m m')) w := by
  have hi := info27s
  cases m; cases m'
  simp [go_sem, hi, eqLn]
set_option maxRecDepth 100000 in
set_option maxHeartbeats 8000000 in
theorem words_same (va vb : Value) (xs ys : List Int) (w : World) (ha : Rds w 1 va xs.length (encU xs)) (hb : Rds w 1 vb ys.length (encU ys)) :
    Calls Try.prog 23 #[va, vb] w fun e w' => e = .returned (.bool (decide (xs = ys))) ∧ Below w.heap.size w w' := by
  obtain ⟨_, a, capa, rfl, p2, p3, p4, p5⟩ := ha
  obtain ⟨_, b, capb, rfl, q2, q3, q4, q5⟩ := hb
  have ma : maxLen = 9223372036854775807 := rfl
  rw [ma] at p3 q3
  clear ma
  by_cases hlen : xs.length = ys.length
  · obtain ⟨n, hn⟩ : ∃ n, xs.length = n := ⟨_, rfl⟩
    have hn' : ys.length = n := by rw [← hlen]; exact hn
    have HN := Lib.hid hn; have HN' := Lib.hid hn'
    rw [hn] at p2 p4 p5 ⊢
    rw [hn'] at q2 q4 q5 ⊢
    have P5 := Lib.hid p5; have Q5 := Lib.hid q5
    have hl2 : ((n : Int) != (n : Int)) = false := by simp
    clear hn hn' hlen p4 p5 q3 q4 q5
    go_enter Try.func23, Try.ntmps23
    go_wp2
    go_loopw [5] (fun i w' => ∃ j : Nat, j ≤ n ∧ i = .int .i64 j ∧ Below w.heap.size w w' ∧ (∀ t, t < j → xs[t]? = ys[t]?)) (fun i _ => n - (intOf i).toNat)
    case atStart => exact ⟨0, by omega, rfl, Below.refl _ _, fun t ht => by omega⟩
    case round =>
    obtain ⟨j, hj, rfl, hB, hE⟩ := hrel
    by_cases hlt : j < n
    · obtain ⟨x, hx⟩ : ∃ x, xs[j]? = some x := ⟨_, List.getElem?_eq_getElem (by rw [HN.out]; exact hlt)⟩
      obtain ⟨y, hy⟩ : ∃ y, ys[j]? = some y := ⟨_, List.getElem?_eq_getElem (by rw [HN'.out]; exact hlt)⟩
      obtain ⟨ga, oa, rfl, ga1, ca⟩ := P5.out (by omega)
      obtain ⟨gb, ob, rfl, gb1, cb⟩ := Q5.out (by omega)
      have x0 : wr.cell? ⟨ga, oa + j, none⟩ = some (.int .u64 x) := (hB.cell (p := ⟨ga, oa + j, none⟩) ga1).trans (ca j _ (encU_get hx))
      have y0 : wr.cell? ⟨gb, ob + j, none⟩ = some (.int .u64 y) := (hB.cell (p := ⟨gb, ob + j, none⟩) gb1).trans (cb j _ (encU_get hy))
      have HB := Lib.hid hB
      have hj0 : (0 : Int) ≤ (j : Int) := by omega
      have hj1 : (j : Int) < (n : Int) := by omega
      by_cases he : x = y
      · subst he
        have hne : (x != x) = false := by simp
        have HE := Lib.hid (show ∀ t, t < j + 1 → xs[t]? = ys[t]? from fun t ht => by
          rcases Nat.lt_or_ge t j with h | h
          · exact hE t h
          · obtain rfl : t = j := by omega
            rw [hx, hy])
        clear hB hx hy ca cb hE
        go_wp2
        go_quiet (fail)
        go_wp2
        go_roundw
        case rel => exact ⟨j + 1, by omega, by go_num, below_drewN HB.out _, HE.out⟩
        case measure => simp [intOf]; omega
      · have hne : (x != y) = true := by simpa using he
        have hd : decide (xs = ys) = false := decide_eq_false (fun h => by rw [h, hy] at hx; injection hx with hx; exact he hx.symm)
        have HD := Lib.hid hd
        clear hB hx hy ca cb hE he hd
        go_wp2
        go_quiet (fail)
        go_wp2
        go_ret
        exact ⟨by rw [HD.out]; rfl, below_drewN HB.out _⟩
    · have hd : decide (xs = ys) = true := decide_eq_true (List.ext_getElem? fun t => by
        rcases Nat.lt_or_ge t j with h | h
        · exact hE t h
        · rw [List.getElem?_eq_none (by rw [HN.out]; omega), List.getElem?_eq_none (by rw [HN'.out]; omega)])
      have HD := Lib.hid hd; have HB := Lib.hid hB
      have hj1 : ¬ (j : Int) < (n : Int) := by omega
      clear hd hE hB
      go_wp2
      go_ret
      exact ⟨by rw [HD.out]; rfl, HB.out⟩
  · have hd : decide (xs = ys) = false := decide_eq_false (fun h => hlen (by rw [h]))
    have hl' : ((xs.length : Int) != (ys.length : Int)) = true := by simp; omega
    have HD := Lib.hid hd
    clear hd hlen p4 p5 q4 q5
    go_enter Try.func23, Try.ntmps23
    go_wp2
    go_ret
    exact ⟨by rw [HD.out]; rfl, Below.refl _ _⟩
theorem lines_same_next {ms ms' : List Ln} {j : Nat} {m m' : Ln} (hm : ms[j]? = some m) (hm' : ms'[j]? = some m') (he : m = m') (h : ∀ t, t < j → ms[t]? = ms'[t]?) : ∀ t, t < j + 1 → ms[t]? = ms'[t]? := fun t ht => by
  rcases Nat.lt_or_ge t j with h1 | h1
  · exact h t h1
  · obtain rfl : t = j := by omega
    rw [hm, hm', he]
set_option maxRecDepth 100000 in
set_option maxHeartbeats 8000000 in
theorem lines_same (va vb : Value) (ms ms' : List Ln) (w : World) (ha : Rds w 8 va ms.length (encLns ms)) (hb : Rds w 8 vb ms'.length (encLns ms')) :
    Calls Try.prog 26 #[va, vb] w fun e w' => e = .returned (.bool (decide (ms = ms'))) ∧ Below w.heap.size w w' := by
  obtain ⟨_, a, capa, rfl, p2, p3, p4, p5⟩ := ha
  obtain ⟨_, b, capb, rfl, q2, q3, q4, q5⟩ := hb
  have ma : maxLen = 9223372036854775807 := rfl
  rw [ma] at p3 q3
  clear ma
  by_cases hlen : ms.length = ms'.length
  · have hl' : ((ms.length : Int) != (ms'.length : Int)) = false := by rw [hlen]; simp
    have hq := run_neq_Ln
    obtain ⟨n, hn⟩ : ∃ n, ms.length = n := ⟨_, rfl⟩
    obtain ⟨n', hn'⟩ : ∃ n', ms'.length = n' := ⟨_, rfl⟩
    have HN := Lib.hid hn
    have HN' := Lib.hid hn'
    rw [hn, hn'] at hl' hlen
    rw [hn] at p2 p4 p5
    rw [hn'] at q2 q4 q5
    simp only [hn, hn']
    clear hn hn'
    rcases Nat.eq_zero_or_pos n with h0 | h0
    · have hnil : ms = ms' := by
        have h1 : ms = [] := List.eq_nil_of_length_eq_zero (HN.out.trans h0)
        have h2 : ms' = [] := List.eq_nil_of_length_eq_zero (HN'.out.trans (by omega))
        rw [h1, h2]
      subst hnil
      subst h0
      subst hlen
      clear p4 p5 q4 q5
      go_enter Try.func26, Try.ntmps26
      go_wp2
      go_loopw [5] (fun i w' => i = .int .i64 0 ∧ w' = w) (fun _ _ => 0)
      case atStart => exact ⟨rfl, rfl⟩
      case round =>
        obtain ⟨rfl, rfl⟩ := hrel
        go_wp2
        go_ret
        exact ⟨by simp, Below.refl _ _⟩
    · obtain ⟨ga, oa, rfl, hga, hca⟩ := p5 h0
      obtain ⟨gb, ob, rfl, hgb, hcb⟩ := q5 (by omega)
      subst hlen
      have hl2 := hl'
      clear p4 p5 q4 q5
      go_enter Try.func26, Try.ntmps26
      go_wp2
      go_loopw [5] (fun i w' => ∃ j : Nat, j ≤ n ∧ i = .int .i64 j ∧ Below w.heap.size w w' ∧ (∀ t, t < j → ms[t]? = ms'[t]?)) (fun i _ => n - (intOf i).toNat)
      case atStart => exact ⟨0, by omega, rfl, Below.refl _ _, fun t ht => by omega⟩
      case round =>
      obtain ⟨j, hj, rfl, hB, hE⟩ := hrel
      by_cases hlt : j < n
      · obtain ⟨m, hm⟩ : ∃ m, ms[j]? = some m := ⟨_, List.getElem?_eq_getElem (by rw [HN.out]; exact hlt)⟩
        obtain ⟨m', hm'⟩ : ∃ m, ms'[j]? = some m := ⟨_, List.getElem?_eq_getElem (by rw [HN'.out]; exact hlt)⟩
        have fa : ∀ i u, i < 8 → (encLn m)[i]? = some u → wr.cell? ⟨ga, oa + j * 8 + i, none⟩ = some u := fun i u hi hu => (hB.cell (p := ⟨ga, oa + j * 8 + i, none⟩) hga).trans (by rw [Nat.add_assoc]; exact hca _ _ ((encLns_get _ j _ hm i hi).trans hu))
        have fb : ∀ i u, i < 8 → (encLn m')[i]? = some u → wr.cell? ⟨gb, ob + j * 8 + i, none⟩ = some u := fun i u hi hu => (hB.cell (p := ⟨gb, ob + j * 8 + i, none⟩) hgb).trans (by rw [Nat.add_assoc]; exact hcb _ _ ((encLns_get _ j _ hm' i hi).trans hu))
        have x0 : wr.cell? ⟨ga, oa + j * 8, none⟩ = some (.int .u64 m.d0) := fa 0 _ (by omega) rfl
        have x1 : wr.cell? ⟨ga, oa + j * 8 + 1, none⟩ = some (.int .u64 m.d1) := fa 1 _ (by omega) rfl
        have x2 : wr.cell? ⟨ga, oa + j * 8 + 2, none⟩ = some (.int .u64 m.d2) := fa 2 _ (by omega) rfl
        have x3 : wr.cell? ⟨ga, oa + j * 8 + 3, none⟩ = some (.int .u64 m.d3) := fa 3 _ (by omega) rfl
        have x4 : wr.cell? ⟨ga, oa + j * 8 + 4, none⟩ = some (.int .u64 m.d4) := fa 4 _ (by omega) rfl
        have x5 : wr.cell? ⟨ga, oa + j * 8 + 5, none⟩ = some (.int .u64 m.d5) := fa 5 _ (by omega) rfl
        have x6 : wr.cell? ⟨ga, oa + j * 8 + 6, none⟩ = some (.int .u64 m.d6) := fa 6 _ (by omega) rfl
        have x7 : wr.cell? ⟨ga, oa + j * 8 + 7, none⟩ = some (.int .u64 m.d7) := fa 7 _ (by omega) rfl
        have y0 : wr.cell? ⟨gb, ob + j * 8, none⟩ = some (.int .u64 m'.d0) := fb 0 _ (by omega) rfl
        have y1 : wr.cell? ⟨gb, ob + j * 8 + 1, none⟩ = some (.int .u64 m'.d1) := fb 1 _ (by omega) rfl
        have y2 : wr.cell? ⟨gb, ob + j * 8 + 2, none⟩ = some (.int .u64 m'.d2) := fb 2 _ (by omega) rfl
        have y3 : wr.cell? ⟨gb, ob + j * 8 + 3, none⟩ = some (.int .u64 m'.d3) := fb 3 _ (by omega) rfl
        have y4 : wr.cell? ⟨gb, ob + j * 8 + 4, none⟩ = some (.int .u64 m'.d4) := fb 4 _ (by omega) rfl
        have y5 : wr.cell? ⟨gb, ob + j * 8 + 5, none⟩ = some (.int .u64 m'.d5) := fb 5 _ (by omega) rfl
        have y6 : wr.cell? ⟨gb, ob + j * 8 + 6, none⟩ = some (.int .u64 m'.d6) := fb 6 _ (by omega) rfl
        have y7 : wr.cell? ⟨gb, ob + j * 8 + 7, none⟩ = some (.int .u64 m'.d7) := fb 7 _ (by omega) rfl
        have HF := Lib.hid fa; have HF' := Lib.hid fb; have HE := Lib.hid hE; have HM := Lib.hid hm; have HM' := Lib.hid hm'; have HCA := Lib.hid hca; have HCB := Lib.hid hcb
        clear fa fb hE hm hm' hca hcb
        have hj0 : (0 : Int) ≤ (j : Int) := by omega
        have hj1 : (j : Int) < (n : Int) := by omega
        by_cases he : eqLn m m' = true
        · go_wp2
          go_quiet (fail)
          go_wp2
          go_roundw
          case rel => exact ⟨j + 1, by omega, by go_num, below_drewN hB _, lines_same_next HM.out HM'.out ((eqLn_iff _ _).1 he) HE.out⟩
          case measure => simp [intOf]; omega
        · have he' : eqLn m m' = false := by simpa using he
          have hne : ¬ ms = ms' := fun h => he ((eqLn_iff _ _).2 (by have h1 := HM.out; rw [h, HM'.out] at h1; exact (Option.some.inj h1).symm))
          have hd : decide (ms = ms') = false := decide_eq_false hne
          have HD := Lib.hid hd
          clear he hne hd
          go_wp2
          go_quiet (fail)
          go_wp2
          go_ret
          exact ⟨by rw [HD.out]; rfl, below_drewN hB _⟩
      · have hjn : j = n := by omega
        have hms : ms = ms' := List.ext_getElem? fun t => by
          rcases Nat.lt_or_ge t j with h | h
          · exact hE t h
          · rw [List.getElem?_eq_none (by rw [HN.out]; omega), List.getElem?_eq_none (by rw [HN'.out]; omega)]
        have hd : decide (ms = ms') = true := decide_eq_true hms
        have HD := Lib.hid hd
        clear hms hd hE hjn hca hcb
        go_wp2
        go_ret
        exact ⟨by rw [HD.out]; rfl, hB⟩
  · have hd : decide (ms = ms') = false := decide_eq_false (fun h => hlen (by rw [h]))
    have hl' : ((ms.length : Int) != (ms'.length : Int)) = true := by simp; omega
    have HD := Lib.hid hd
    clear hd hlen p4 p5 q4 q5
    go_enter Try.func26, Try.ntmps26
    go_wp2
    go_ret
    exact ⟨by rw [HD.out]; rfl, Below.refl _ _⟩
end Go.Proofs.Ytejeghfddnbhaaa
