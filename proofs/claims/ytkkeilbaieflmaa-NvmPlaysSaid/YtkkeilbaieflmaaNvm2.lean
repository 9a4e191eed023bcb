/-
  The memory of lines: New, Image, Fail, Restore; are two lists of lines alike?
-/
import Derived.Test.YtkkeilbaieflmaaNvm
import Derived.Test.YtkkeilbaieflmaaKitF
import Derived.Lib.SliceRun
namespace Go.Proofs.Ytkkeilbaieflmaa
open Go.RowKit
attribute [local go_sem ↓] Go.wp_at_zero Go.wp_at_succ

theorem run_neq_Ln (w : World) (m m' : Ln) : (binOp .neq 34 (.agg #[.int .u64 m.d0, .int .u64 m.d1, .int .u64 m.d2, .int .u64 m.d3, .int .u64 m.d4, .int .u64 m.d5, .int .u64 m.d6, .int .u64 m.d7]) (.agg #[.int .u64 m'.d0, .int .u64 m'.d1, .int .u64 m'.d2, .int .u64 m'.d3, .int .u64 m'.d4, .int .u64 m'.d5, .int .u64 m'.d6, .int .u64 m'.d7])).run Try.prog w = .ok (.bool (!eqLn m m')) w := by
  have hi := info22
  cases m; cases m'
  simp [go_sem, hi, eqLn]
set_option maxHeartbeats 4000000 in
theorem clone_any (v : Value) (n : Nat) (xs : List Value) (w : World) (hr : Rds w 8 v n xs) (h1 : ∀ u ∈ xs, u.oneCell' = true) (hby : n * 64 ≤ 140737488355328) :
    Calls Try.prog 24 #[v] w fun e w' => ∃ v', e = .returned v' ∧ Own w' w.heap.size 34 8 v' n xs ∧ Below w.heap.size w w' := by
  obtain ⟨hl, a, cap, rfl, h2, h3, h4, h5⟩ := hr
  obtain ⟨i0, hi0, hz0, hz1, hz2⟩ := info_parts info34
  have hnil := fun (a : Option Addr) (l c : Nat) (w : World) => Lib.run_eql_slice_nil (P := Try.prog) w 35 34 a l c 0 0 Try.underlying35
  cases a with
  | none =>
    obtain ⟨rfl, rfl⟩ := h4 rfl
    have hx : xs = [] := List.eq_nil_of_length_eq_zero (by simpa using hl)
    subst hx
    go_enter Try.func24, Try.ntmps24
    go_wp2
    go_ret
    exact ⟨_, rfl, Own.nil _ _ _ _, Below.refl _ _⟩
  | some ad =>
    have hown : Own (w.alloc (.cells #[] 34)) w.heap.size 34 8 (.slice (some ⟨w.heap.size, 0, none⟩) 0 0) 0 [] :=
      ⟨by simp, .inr ⟨w.heap.size, 0, 0, #[], rfl, Nat.le_refl _, heap_alloc_new w _, Nat.le_refl _, Nat.zero_le _, by simp, by simp⟩⟩
    rcases Nat.eq_zero_or_pos n with h0 | h0
    · subst h0
      have hx : xs = [] := List.eq_nil_of_length_eq_zero (by simpa using hl)
      subst hx
      have hown' := Lib.hid hown
      clear hown
      have hrun : ∀ ty, (Builtin.append_ #[35, 35] ty #[.slice (some ⟨w.heap.size, 0, none⟩) 0 0, .slice (some ad) 0 cap]).run Try.prog (w.alloc (.cells #[] 34)) = .ok (.slice (some ⟨w.heap.size, 0, none⟩) 0 0) (w.alloc (.cells #[] 34)) := fun ty => by
        simp [Builtin.append_, run_underlying Try.underlying35, sizeOf, typeInfo, hi0, Builtin.lenOf, Builtin.firstCells, loadCells, loadCellsFrom, storeCells]
      go_enter Try.func24, Try.ntmps24
      go_wp2
      go_ret
      exact ⟨_, rfl, hown'.out, Below.al (Below.refl _ _) _⟩
    · obtain ⟨g, o, e, hg, hc⟩ := h5 h0
      injection e with e
      subst e
      have hnews : ∀ j u, xs[j]? = some u → (w.alloc (.cells #[] 34)).cell? ((⟨g, o, none⟩ : Addr).add j) = some u := fun j u hu => by
        have hadd : (⟨g, o, none⟩ : Addr).add j = ⟨g, o + j, none⟩ := by unfold Addr.add; split <;> simp_all
        rw [hadd, World.cell?_alloc_old _ _ _ (by simp; omega)]
        exact hc j u hu
      have hl' : xs.length = n * 8 := hl
      have HL := Lib.hid hl'
      clear hl hl' h4 h5
      go_enter Try.func24, Try.ntmps24
      go_wp2_with (at_builtin; refine wpList_append_Own _ rfl _ _ 35 rfl w.heap.size 34 i0 _ 8 64 Try.underlying35 hi0 hz0 hz1 hz2 rfl (.slice (some ⟨w.heap.size, 0, none⟩) 0 0) 0 [] rfl hown ⟨g, o, none⟩ n cap xs rfl HL.out hnews h1 h0 (by omega) (by omega) (by simp) ?_; intro g' o' cap' w2 hown2 honly2 hat2 hlt2)
      simp only [Nat.zero_add, List.nil_append] at hown2
      go_wp2
      go_ret
      exact ⟨_, by simp, hown2, Only.below (S := fun k => k = w.heap.size) (Only.trans (Only.al (Only.refl _ _) _) (honly2.mono (fun k _ h => (Option.some.inj h).symm))) (Nat.le_refl _) (fun k hk => by omega)⟩
theorem lines_any_next {ms ms' : List Ln} {j : Nat} {m m' : Ln} (hm : ms[j]? = some m) (hm' : ms'[j]? = some m') (he : m = m') (h : ∀ t, t < j → ms[t]? = ms'[t]?) : ∀ t, t < j + 1 → ms[t]? = ms'[t]? := fun t ht => by
  rcases Nat.lt_or_ge t j with h1 | h1
  · exact h t h1
  · obtain rfl : t = j := by omega
    rw [hm, hm', he]
set_option maxRecDepth 100000 in
set_option maxHeartbeats 8000000 in
theorem lines_any (va vb : Value) (ms ms' : List Ln) (w : World) (ha : Rds w 8 va ms.length (encLns ms)) (hb : Rds w 8 vb ms'.length (encLns ms')) :
    Calls Try.prog 19 #[va, vb] w fun e w' => e = .returned (.bool (decide (ms = ms'))) ∧ Below w.heap.size w w' := by
  obtain ⟨_, a, capa, rfl, p2, p3, p4, p5⟩ := ha
  obtain ⟨_, b, capb, rfl, q2, q3, q4, q5⟩ := hb
  have ma : maxLen = 9223372036854775807 := rfl
  rw [ma] at p3 q3
  clear ma
  by_cases hlen : ms.length = ms'.length
  · have hl' : ((ms.length : Int) != (ms'.length : Int)) = false := by rw [hlen]; simp
    have hq := run_neq_Ln
    obtain ⟨n, hn⟩ : ∃ n, ms.length = n := ⟨_, rfl⟩
    obtain ⟨n', hn'⟩ : ∃ n', ms'.length = n' := ⟨_, rfl⟩
    have HN := Lib.hid hn
    have HN' := Lib.hid hn'
    rw [hn, hn'] at hl' hlen
    rw [hn] at p2 p4 p5
    rw [hn'] at q2 q4 q5
    simp only [hn, hn']
    clear hn hn'
    rcases Nat.eq_zero_or_pos n with h0 | h0
    · have hnil : ms = ms' := by
        have h1 : ms = [] := List.eq_nil_of_length_eq_zero (HN.out.trans h0)
        have h2 : ms' = [] := List.eq_nil_of_length_eq_zero (HN'.out.trans (by omega))
        rw [h1, h2]
      subst hnil
      subst h0
      subst hlen
      clear p4 p5 q4 q5
      go_enter Try.func19, Try.ntmps19
      go_wp2
      go_loopw [5] (fun i w' => i = .int .i64 0 ∧ w' = w) (fun _ _ => 0)
      case atStart => exact ⟨rfl, rfl⟩
      case round =>
        obtain ⟨rfl, rfl⟩ := hrel
        go_wp2
        go_ret
        exact ⟨by simp, Below.refl _ _⟩
    · obtain ⟨ga, oa, rfl, hga, hca⟩ := p5 h0
      obtain ⟨gb, ob, rfl, hgb, hcb⟩ := q5 (by omega)
      subst hlen
      have hl2 := hl'
      clear p4 p5 q4 q5
      go_enter Try.func19, Try.ntmps19
      go_wp2
      go_loopw [5] (fun i w' => ∃ j : Nat, j ≤ n ∧ i = .int .i64 j ∧ Below w.heap.size w w' ∧ (∀ t, t < j → ms[t]? = ms'[t]?)) (fun i _ => n - (intOf i).toNat)
      case atStart => exact ⟨0, by omega, rfl, Below.refl _ _, fun t ht => by omega⟩
      case round =>
      obtain ⟨j, hj, rfl, hB, hE⟩ := hrel
      by_cases hlt : j < n
      · obtain ⟨m, hm⟩ : ∃ m, ms[j]? = some m := ⟨_, List.getElem?_eq_getElem (by rw [HN.out]; exact hlt)⟩
        obtain ⟨m', hm'⟩ : ∃ m, ms'[j]? = some m := ⟨_, List.getElem?_eq_getElem (by rw [HN'.out]; exact hlt)⟩
        have fa : ∀ i u, i < 8 → (encLn m)[i]? = some u → wr.cell? ⟨ga, oa + j * 8 + i, none⟩ = some u := fun i u hi hu => (hB.cell (p := ⟨ga, oa + j * 8 + i, none⟩) hga).trans (by rw [Nat.add_assoc]; exact hca _ _ ((encLns_get _ j _ hm i hi).trans hu))
        have fb : ∀ i u, i < 8 → (encLn m')[i]? = some u → wr.cell? ⟨gb, ob + j * 8 + i, none⟩ = some u := fun i u hi hu => (hB.cell (p := ⟨gb, ob + j * 8 + i, none⟩) hgb).trans (by rw [Nat.add_assoc]; exact hcb _ _ ((encLns_get _ j _ hm' i hi).trans hu))
        have x0 : wr.cell? ⟨ga, oa + j * 8, none⟩ = some (.int .u64 m.d0) := fa 0 _ (by omega) rfl
        have x1 : wr.cell? ⟨ga, oa + j * 8 + 1, none⟩ = some (.int .u64 m.d1) := fa 1 _ (by omega) rfl
        have x2 : wr.cell? ⟨ga, oa + j * 8 + 2, none⟩ = some (.int .u64 m.d2) := fa 2 _ (by omega) rfl
        have x3 : wr.cell? ⟨ga, oa + j * 8 + 3, none⟩ = some (.int .u64 m.d3) := fa 3 _ (by omega) rfl
        have x4 : wr.cell? ⟨ga, oa + j * 8 + 4, none⟩ = some (.int .u64 m.d4) := fa 4 _ (by omega) rfl
        have x5 : wr.cell? ⟨ga, oa + j * 8 + 5, none⟩ = some (.int .u64 m.d5) := fa 5 _ (by omega) rfl
        have x6 : wr.cell? ⟨ga, oa + j * 8 + 6, none⟩ = some (.int .u64 m.d6) := fa 6 _ (by omega) rfl
        have x7 : wr.cell? ⟨ga, oa + j * 8 + 7, none⟩ = some (.int .u64 m.d7) := fa 7 _ (by omega) rfl
        have y0 : wr.cell? ⟨gb, ob + j * 8, none⟩ = some (.int .u64 m'.d0) := fb 0 _ (by omega) rfl
        have y1 : wr.cell? ⟨gb, ob + j * 8 + 1, none⟩ = some (.int .u64 m'.d1) := fb 1 _ (by omega) rfl
        have y2 : wr.cell? ⟨gb, ob + j * 8 + 2, none⟩ = some (.int .u64 m'.d2) := fb 2 _ (by omega) rfl
        have y3 : wr.cell? ⟨gb, ob + j * 8 + 3, none⟩ = some (.int .u64 m'.d3) := fb 3 _ (by omega) rfl
        have y4 : wr.cell? ⟨gb, ob + j * 8 + 4, none⟩ = some (.int .u64 m'.d4) := fb 4 _ (by omega) rfl
        have y5 : wr.cell? ⟨gb, ob + j * 8 + 5, none⟩ = some (.int .u64 m'.d5) := fb 5 _ (by omega) rfl
        have y6 : wr.cell? ⟨gb, ob + j * 8 + 6, none⟩ = some (.int .u64 m'.d6) := fb 6 _ (by omega) rfl
        have y7 : wr.cell? ⟨gb, ob + j * 8 + 7, none⟩ = some (.int .u64 m'.d7) := fb 7 _ (by omega) rfl
        have HF := Lib.hid fa; have HF' := Lib.hid fb; have HE := Lib.hid hE; have HM := Lib.hid hm; have HM' := Lib.hid hm'; have HCA := Lib.hid hca; have HCB := Lib.hid hcb
        clear fa fb hE hm hm' hca hcb
        have hj0 : (0 : Int) ≤ (j : Int) := by omega
        have hj1 : (j : Int) < (n : Int) := by omega
        by_cases he : eqLn m m' = true
        · go_wp2
          go_quiet (fail)
          go_wp2
          go_roundw
          case rel => exact ⟨j + 1, by omega, by go_num, below_drewN hB _, lines_any_next HM.out HM'.out ((eqLn_iff _ _).1 he) HE.out⟩
          case measure => simp [intOf]; omega
        · have he' : eqLn m m' = false := by simpa using he
          have hne : ¬ ms = ms' := fun h => he ((eqLn_iff _ _).2 (by have h1 := HM.out; rw [h, HM'.out] at h1; exact (Option.some.inj h1).symm))
          have hd : decide (ms = ms') = false := decide_eq_false hne
          have HD := Lib.hid hd
          clear he hne hd
          go_wp2
          go_quiet (fail)
          go_wp2
          go_ret
          exact ⟨by rw [HD.out]; rfl, below_drewN hB _⟩
      · have hjn : j = n := by omega
        have hms : ms = ms' := List.ext_getElem? fun t => by
          rcases Nat.lt_or_ge t j with h | h
          · exact hE t h
          · rw [List.getElem?_eq_none (by rw [HN.out]; omega), List.getElem?_eq_none (by rw [HN'.out]; omega)]
        have hd : decide (ms = ms') = true := decide_eq_true hms
        have HD := Lib.hid hd
        clear hms hd hE hjn hca hcb
        go_wp2
        go_ret
        exact ⟨by rw [HD.out]; rfl, hB⟩
  · have hd : decide (ms = ms') = false := decide_eq_false (fun h => hlen (by rw [h]))
    have hl' : ((ms.length : Int) != (ms'.length : Int)) = true := by simp; omega
    have HD := Lib.hid hd
    clear hd hlen p4 p5 q4 q5
    go_enter Try.func19, Try.ntmps19
    go_wp2
    go_ret
    exact ⟨by rw [HD.out]; rfl, Below.refl _ _⟩

set_option maxHeartbeats 400000 in
theorem image_any (d g base : Nat) (ls : List Ln) (vol : Nat) (w : World) (h : DAt w d g base ls vol) :
    Calls Try.prog 20 #[.pointer (some ⟨d, 0, none⟩)] w fun e w' => ∃ v', e = .returned v' ∧ Own w' w.heap.size 34 8 v' ls.length (encLns ls) ∧ Below w.heap.size w w' := by
  have hc := h.c0
  have hn := h.n1
  have hr : Rds w 8 (.slice (some ⟨g, 0, none⟩) ls.length ls.length) ls.length (encLns ls) :=
    ⟨encLns_len ls, _, _, rfl, Nat.le_refl _, by unfold maxLen; omega, fun h => (by cases h), fun _ => ⟨g, 0, rfl, h.glt, fun j u hj => by rw [Nat.zero_add, h.gcell]; exact hj⟩⟩
  have HR := Lib.hid hr
  clear hr h
  go_enter Try.func20, Try.ntmps20
  go_wp2_with (fail)
  refine (clone_any _ ls.length (encLns ls) _ HR.out (encLns_one ls) (by omega)).mono ?_
  rintro e w' ⟨v', rfl, ho, hb⟩
  have HO := Lib.hid ho; have HB := Lib.hid hb
  clear ho hb
  go_wp2
  go_ret
  exact ⟨v', rfl, HO.out, HB.out⟩
theorem image_nil (w : World) : Calls Try.prog 20 #[.pointer none] w fun e w' => e = .returned (.slice none 0 0) ∧ w = w' := by
  go_enter Try.func20, Try.ntmps20
  go_wp2
  go_ret
  exact ⟨rfl, rfl⟩
/-- The device with other lines at its head. -/
theorem DAt.lay {w : World} {d g base : Nat} {ls : List Ln} {vol : Nat} (h : DAt w d g base ls vol) (xs : List Ln) (hx : xs.length ≤ ls.length) : DAt (w.setCells g 0 (encLns xs)) d g base (xs ++ ls.drop xs.length) vol := by
  have hon : Only (fun k => k = g) w (w.setCells g 0 (encLns xs)) := Only.setCells g (encLns xs) 0 w
  have hrow := row_setCells g 34 (encLns xs) 0 w _ h.row (by rw [List.size_toArray, encLns_len, encLns_len]; omega)
  have e : ((encLns ls).toArray.toList.take 0 ++ encLns xs ++ (encLns ls).toArray.toList.drop (0 + (encLns xs).length)) = encLns (xs ++ ls.drop xs.length) := by
    rw [encLns_app, encLns_len, ← encLns_drop]; simp
  rw [e] at hrow
  obtain ⟨r2, c2⟩ := h.c2
  obtain ⟨r3, c3⟩ := h.c3
  have hdn : ¬ d = g := h.ne_
  have hl : (xs ++ ls.drop xs.length).length = ls.length := by rw [List.length_append, List.length_drop]; omega
  generalize w.setCells g 0 (encLns xs) = w' at hon hrow ⊢
  exact ⟨by rw [hl]; exact (hon.cell (p := ⟨d, 0, none⟩) h.dlt hdn).trans h.c0, (hon.cell (p := ⟨d, 1, none⟩) h.dlt hdn).trans h.c1, ⟨r2, (hon.cell (p := ⟨d, 2, none⟩) h.dlt hdn).trans c2⟩, ⟨r3, (hon.cell (p := ⟨d, 3, none⟩) h.dlt hdn).trans c3⟩,
      fun o => (hon.frozen (p := ⟨d, o, none⟩) h.dlt hdn).trans (h.free o), hrow, h.ne_, Nat.lt_of_lt_of_le h.dlt hon.size, h.dlo, h.glo, by rw [hl]; exact h.v1, by rw [hl]; exact h.n1⟩
set_option maxRecDepth 100000 in
set_option maxHeartbeats 4000000 in
theorem fail_any (d g base : Nat) (ls : List Ln) (vol : Nat) (hv : 0 < vol) (w : World) (h : DAt w d g base ls vol) :
    Calls Try.prog 15 #[.pointer (some ⟨d, 0, none⟩)] w fun e w' => e = .returned (.tuple #[]) ∧ DAt w' d g base (List.replicate vol Ln.zero ++ ls.drop vol) vol ∧ Only (fun k => k = g) w w' := by
  obtain ⟨i0, hi0, hz0, hz1, hz2⟩ := info_parts info34
  have hzv : ∀ w, (zeroValue 34).run Try.prog w = .ok (.agg #[.int .u64 0, .int .u64 0, .int .u64 0, .int .u64 0, .int .u64 0, .int .u64 0, .int .u64 0, .int .u64 0]) w := fun w => by simp [zeroValue, typeInfo, hi0, hz0]
  have hlen : (encLns (List.replicate vol Ln.zero)).length = vol * 8 := by rw [encLns_len, List.length_replicate]
  have hcl : ∀ ty, (Builtin.clear_ #[35] ty #[.slice (some ⟨g, 0, none⟩) vol ls.length]).run Try.prog w.drew = .ok (.tuple #[]) (w.drew.setCells g 0 (encLns (List.replicate vol Ln.zero))) := fun ty =>
    run_clear_row w.drew 35 34 ty _ _ Try.underlying35 hzv g 0 vol ls.length hv (zeroed_lines vol) (fun j hj => by
      have := h.drew.gcell (0 + j)
      rw [this, List.getElem?_eq_getElem (by rw [encLns_len]; have := h.v1; omega)]; rfl) (fun j hj => h.drew.gfree _) (encLns_one _)
  have hD := h.drew.lay (List.replicate vol Ln.zero) (by rw [List.length_replicate]; exact h.v1)
  rw [List.length_replicate] at hD
  have hO : Only (fun k => k = g) w (w.drew.setCells g 0 (encLns (List.replicate vol Ln.zero))) := (Only.refl _ w).drew.trans (Only.setCells g _ 0 _)
  have HD := Lib.hid hD; have HO := Lib.hid hO
  have c0 := h.c0
  have c1 := h.c1
  have n1 := h.n1
  have v1 : (vol : Int) ≤ (ls.length : Int) := by have := h.v1; omega
  have v0 : (0 : Int) ≤ (vol : Int) := by omega
  have v2 := h.v1
  clear hD hO h hlen hzv
  go_enter Try.func15, Try.ntmps15
  go_wp2
  go_region_law (fail)
  all_goals
    go_wp2
    go_end0
    exact ⟨rfl, HD.out, HO.out⟩
theorem fail_nil (w : World) : Calls Try.prog 15 #[.pointer none] w fun e w' => e = .returned (.tuple #[]) ∧ w = w' := by
  go_enter Try.func15, Try.ntmps15
  go_wp2
  go_end0
  exact ⟨rfl, rfl⟩
end Go.Proofs.Ytkkeilbaieflmaa
