/-
  slices.Clone of messages; All; are two lists of messages alike?
-/
import Derived.Test.YtjkckcmogpipmaaQueue
import Derived.Deep.QuietTactic
import Derived.BigQuiet
import Derived.WalkSmall
namespace Go.Proofs.Ytjkckcmogpipmaa
open Go.RowKit
attribute [local go_sem ↓] Go.wp_at_zero Go.wp_at_succ

set_option maxHeartbeats 4000000 in
theorem clone_any (v : Value) (n : Nat) (xs : List Value) (w : World) (hr : Rds w 12 v n xs) (h1 : ∀ u ∈ xs, u.oneCell' = true) (hby : n * 88 ≤ 140737488355328) :
    Calls Try.prog 25 #[v] w fun e w' => ∃ v', e = .returned v' ∧ Own w' w.heap.size 26 12 v' n xs ∧ Below w.heap.size w w' := by
  obtain ⟨hl, a, cap, rfl, h2, h3, h4, h5⟩ := hr
  obtain ⟨i0, hi0, hz0, hz1, hz2⟩ := info_parts info26
  have hnil := fun (a : Option Addr) (l c : Nat) (w : World) => Lib.run_eql_slice_nil (P := Try.prog) w 31 26 a l c 0 0 Try.underlying31
  cases a with
  | none =>
    obtain ⟨rfl, rfl⟩ := h4 rfl
    have hx : xs = [] := List.eq_nil_of_length_eq_zero (by simpa using hl)
    subst hx
    go_enter Try.func25, Try.ntmps25
    go_wp2
    go_ret
    exact ⟨_, rfl, Own.nil _ _ _ _, Below.refl _ _⟩
  | some ad =>
    have hown : Own (w.alloc (.cells #[] 26)) w.heap.size 26 12 (.slice (some ⟨w.heap.size, 0, none⟩) 0 0) 0 [] :=
      ⟨by simp, .inr ⟨w.heap.size, 0, 0, #[], rfl, Nat.le_refl _, heap_alloc_new w _, Nat.le_refl _, Nat.zero_le _, by simp, by simp⟩⟩
    rcases Nat.eq_zero_or_pos n with h0 | h0
    · subst h0
      have hx : xs = [] := List.eq_nil_of_length_eq_zero (by simpa using hl)
      subst hx
      have hown' := Lib.hid hown
      clear hown
      have hrun : ∀ ty, (Builtin.append_ #[31, 31] ty #[.slice (some ⟨w.heap.size, 0, none⟩) 0 0, .slice (some ad) 0 cap]).run Try.prog (w.alloc (.cells #[] 26)) = .ok (.slice (some ⟨w.heap.size, 0, none⟩) 0 0) (w.alloc (.cells #[] 26)) := fun ty => by
        simp [Builtin.append_, run_underlying Try.underlying31, sizeOf, typeInfo, hi0, Builtin.lenOf, Builtin.firstCells, loadCells, loadCellsFrom, storeCells]
      go_enter Try.func25, Try.ntmps25
      go_wp2
      go_ret
      exact ⟨_, rfl, hown'.out, Below.al (Below.refl _ _) _⟩
    · obtain ⟨g, o, e, hg, hc⟩ := h5 h0
      injection e with e
      subst e
      have hnews : ∀ j u, xs[j]? = some u → (w.alloc (.cells #[] 26)).cell? ((⟨g, o, none⟩ : Addr).add j) = some u := fun j u hu => by
        have hadd : (⟨g, o, none⟩ : Addr).add j = ⟨g, o + j, none⟩ := by unfold Addr.add; split <;> simp_all
        rw [hadd, World.cell?_alloc_old _ _ _ (by simp; omega)]
        exact hc j u hu
      have hl' : xs.length = n * 12 := hl
      have HL := Lib.hid hl'
      clear hl hl' h4 h5
      go_enter Try.func25, Try.ntmps25
      go_wp2_with (at_builtin; refine wpList_append_Own _ rfl _ _ 31 rfl w.heap.size 26 i0 _ 12 88 Try.underlying31 hi0 hz0 hz1 hz2 rfl (.slice (some ⟨w.heap.size, 0, none⟩) 0 0) 0 [] rfl hown ⟨g, o, none⟩ n cap xs rfl HL.out hnews h1 h0 (by omega) (by omega) (by simp) ?_; intro g' o' cap' w2 hown2 honly2 hat2 hlt2)
      simp only [Nat.zero_add, List.nil_append] at hown2
      go_wp2
      go_ret
      exact ⟨_, by simp, hown2, Only.below (S := fun k => k = w.heap.size) (Only.trans (Only.al (Only.refl _ _) _) (honly2.mono (fun k _ h => (Option.some.inj h).symm))) (Nat.le_refl _) (fun k hk => by omega)⟩

/-- A message. -/
structure M where
  k : Int
  l : Int
  a : Bool
  b : Bool
  d0 : Int
  d1 : Int
  d2 : Int
  d3 : Int
  d4 : Int
  d5 : Int
  d6 : Int
  d7 : Int
  deriving DecidableEq
def encM (m : M) : List Value := [.int .i64 m.k, .int .i64 m.l, .bool m.a, .bool m.b, .int .u64 m.d0, .int .u64 m.d1, .int .u64 m.d2, .int .u64 m.d3, .int .u64 m.d4, .int .u64 m.d5, .int .u64 m.d6, .int .u64 m.d7]
def encMs : List M → List Value
  | [] => []
  | m :: r => encM m ++ encMs r
theorem encMs_len : ∀ ms : List M, (encMs ms).length = ms.length * 12
  | [] => rfl
  | m :: r => by simp [encMs, encM, encMs_len r]; omega
theorem encMs_app : ∀ ms ms' : List M, encMs (ms ++ ms') = encMs ms ++ encMs ms'
  | [], _ => rfl
  | m :: r, ms' => by simp [encMs, encMs_app r]
theorem encMs_one : ∀ ms : List M, ∀ u ∈ encMs ms, u.oneCell' = true
  | [], u, h => by cases h
  | m :: r, u, h => by
    rcases List.mem_append.1 h with h | h
    · simp [encM] at h
      rcases h with rfl | rfl | rfl | rfl | rfl | rfl | rfl | rfl | rfl | rfl | rfl | rfl <;> rfl
    · exact encMs_one r u h
theorem encMs_get : ∀ (ms : List M) (i : Nat) (m : M), ms[i]? = some m → ∀ j, j < 12 → (encMs ms)[i * 12 + j]? = (encM m)[j]?
  | m :: r, 0, m', h, j, hj => by
    simp at h; subst h
    rw [encMs, List.getElem?_append_left (by simp [encM]; omega)]
    simp
  | m :: r, i + 1, m', h, j, hj => by
    rw [encMs, List.getElem?_append_right (by simp [encM]; omega)]
    have := encMs_get r i m' (by simpa using h) j hj
    rw [← this]
    congr 1
    simp [encM]
    omega
def eqM (m m' : M) : Bool := m.k == m'.k && (m.l == m'.l && (m.a == m'.a && (m.b == m'.b && (m.d0 == m'.d0 && (m.d1 == m'.d1 && (m.d2 == m'.d2 && (m.d3 == m'.d3 && (m.d4 == m'.d4 && (m.d5 == m'.d5 && (m.d6 == m'.d6 && m.d7 == m'.d7))))))))))
theorem eqM_iff (m m' : M) : eqM m m' = true ↔ m = m' := by
  cases m; cases m'
  simp [eqM]
theorem run_neq_M (w : World) (m m' : M) : (binOp .neq 26 (.agg #[.int .i64 m.k, .int .i64 m.l, .bool m.a, .bool m.b, .int .u64 m.d0, .int .u64 m.d1, .int .u64 m.d2, .int .u64 m.d3, .int .u64 m.d4, .int .u64 m.d5, .int .u64 m.d6, .int .u64 m.d7])
    (.agg #[.int .i64 m'.k, .int .i64 m'.l, .bool m'.a, .bool m'.b, .int .u64 m'.d0, .int .u64 m'.d1, .int .u64 m'.d2, .int .u64 m'.d3, .int .u64 m'.d4, .int .u64 m'.d5, .int .u64 m'.d6, .int .u64 m'.d7])).run Try.prog w = .ok (.bool (!eqM m m')) w := by
  have hi := info22
  cases m; cases m'
  simp [go_sem, hi, eqM]
  rename_i k l a b d0 d1 d2 d3 d4 d5 d6 d7 k' l' a' b' e0 e1 e2 e3 e4 e5 e6 e7
  by_cases h1 : k = k'
  · by_cases h2 : l = l'
    · by_cases h3 : a = a'
      · by_cases h4 : b = b'
        · simp only [h1, h2, h3, h4, if_true]
          cases hc : (d0 == e0 && (d1 == e1 && (d2 == e2 && (d3 == e3 && (d4 == e4 && (d5 == e5 && (d6 == e6 && d7 == e7)))))))
          all_goals (simp; simp at hc; first | omega | exact hc)
        · simp [h1, h2, h3, h4]
      · simp [h1, h2, h3]
    · simp [h1, h2]
  · simp [h1]
theorem msgs_any_next {ms ms' : List M} {j : Nat} {m m' : M} (hm : ms[j]? = some m) (hm' : ms'[j]? = some m') (he : m = m') (h : ∀ t, t < j → ms[t]? = ms'[t]?) : ∀ t, t < j + 1 → ms[t]? = ms'[t]? := fun t ht => by
  rcases Nat.lt_or_ge t j with h1 | h1
  · exact h t h1
  · obtain rfl : t = j := by omega
    rw [hm, hm', he]
set_option maxRecDepth 100000 in
set_option maxHeartbeats 8000000 in
theorem msgs_any (va vb : Value) (ms ms' : List M) (w : World) (ha : Rds w 12 va ms.length (encMs ms)) (hb : Rds w 12 vb ms'.length (encMs ms')) :
    Calls Try.prog 22 #[va, vb] w fun e w' => e = .returned (.bool (decide (ms = ms'))) ∧ Below w.heap.size w w' := by
  obtain ⟨_, a, capa, rfl, p2, p3, p4, p5⟩ := ha
  obtain ⟨_, b, capb, rfl, q2, q3, q4, q5⟩ := hb
  have ma : maxLen = 9223372036854775807 := rfl
  rw [ma] at p3 q3
  clear ma
  by_cases hlen : ms.length = ms'.length
  · have hl' : ((ms.length : Int) != (ms'.length : Int)) = false := by rw [hlen]; simp
    have hq := run_neq_M
    obtain ⟨n, hn⟩ : ∃ n, ms.length = n := ⟨_, rfl⟩
    obtain ⟨n', hn'⟩ : ∃ n', ms'.length = n' := ⟨_, rfl⟩
    have HN := Lib.hid hn
    have HN' := Lib.hid hn'
    rw [hn, hn'] at hl' hlen
    rw [hn] at p2 p4 p5
    rw [hn'] at q2 q4 q5
    simp only [hn, hn']
    clear hn hn'
    rcases Nat.eq_zero_or_pos n with h0 | h0
    · have hnil : ms = ms' := by
        have h1 : ms = [] := List.eq_nil_of_length_eq_zero (HN.out.trans h0)
        have h2 : ms' = [] := List.eq_nil_of_length_eq_zero (HN'.out.trans (by omega))
        rw [h1, h2]
      subst hnil
      subst h0
      subst hlen
      clear p4 p5 q4 q5
      go_enter Try.func22, Try.ntmps22
      go_wp2
      go_loopw [5] (fun i w' => i = .int .i64 0 ∧ w' = w) (fun _ _ => 0)
      case atStart => exact ⟨rfl, rfl⟩
      case round =>
        obtain ⟨rfl, rfl⟩ := hrel
        go_wp2
        go_ret
        exact ⟨by simp, Below.refl _ _⟩
    · obtain ⟨ga, oa, rfl, hga, hca⟩ := p5 h0
      obtain ⟨gb, ob, rfl, hgb, hcb⟩ := q5 (by omega)
      subst hlen
      have hl2 := hl'
      clear p4 p5 q4 q5
      go_enter Try.func22, Try.ntmps22
      go_wp2
      go_loopw [5] (fun i w' => ∃ j : Nat, j ≤ n ∧ i = .int .i64 j ∧ Below w.heap.size w w' ∧ (∀ t, t < j → ms[t]? = ms'[t]?)) (fun i _ => n - (intOf i).toNat)
      case atStart => exact ⟨0, by omega, rfl, Below.refl _ _, fun t ht => by omega⟩
      case round =>
      obtain ⟨j, hj, rfl, hB, hE⟩ := hrel
      by_cases hlt : j < n
      · obtain ⟨m, hm⟩ : ∃ m, ms[j]? = some m := ⟨_, List.getElem?_eq_getElem (by rw [HN.out]; exact hlt)⟩
        obtain ⟨m', hm'⟩ : ∃ m, ms'[j]? = some m := ⟨_, List.getElem?_eq_getElem (by rw [HN'.out]; exact hlt)⟩
        have fa : ∀ i u, i < 12 → (encM m)[i]? = some u → wr.cell? ⟨ga, oa + j * 12 + i, none⟩ = some u := fun i u hi hu => (hB.cell (p := ⟨ga, oa + j * 12 + i, none⟩) hga).trans (by rw [Nat.add_assoc]; exact hca _ _ ((encMs_get _ j _ hm i hi).trans hu))
        have fb : ∀ i u, i < 12 → (encM m')[i]? = some u → wr.cell? ⟨gb, ob + j * 12 + i, none⟩ = some u := fun i u hi hu => (hB.cell (p := ⟨gb, ob + j * 12 + i, none⟩) hgb).trans (by rw [Nat.add_assoc]; exact hcb _ _ ((encMs_get _ j _ hm' i hi).trans hu))
        have x0 : wr.cell? ⟨ga, oa + j * 12, none⟩ = some (.int .i64 m.k) := fa 0 _ (by omega) rfl
        have x1 : wr.cell? ⟨ga, oa + j * 12 + 1, none⟩ = some (.int .i64 m.l) := fa 1 _ (by omega) rfl
        have x2 : wr.cell? ⟨ga, oa + j * 12 + 2, none⟩ = some (.bool m.a) := fa 2 _ (by omega) rfl
        have x3 : wr.cell? ⟨ga, oa + j * 12 + 3, none⟩ = some (.bool m.b) := fa 3 _ (by omega) rfl
        have x4 : wr.cell? ⟨ga, oa + j * 12 + 4, none⟩ = some (.int .u64 m.d0) := fa 4 _ (by omega) rfl
        have x5 : wr.cell? ⟨ga, oa + j * 12 + 5, none⟩ = some (.int .u64 m.d1) := fa 5 _ (by omega) rfl
        have x6 : wr.cell? ⟨ga, oa + j * 12 + 6, none⟩ = some (.int .u64 m.d2) := fa 6 _ (by omega) rfl
        have x7 : wr.cell? ⟨ga, oa + j * 12 + 7, none⟩ = some (.int .u64 m.d3) := fa 7 _ (by omega) rfl
        have x8 : wr.cell? ⟨ga, oa + j * 12 + 8, none⟩ = some (.int .u64 m.d4) := fa 8 _ (by omega) rfl
        have x9 : wr.cell? ⟨ga, oa + j * 12 + 9, none⟩ = some (.int .u64 m.d5) := fa 9 _ (by omega) rfl
        have x10 : wr.cell? ⟨ga, oa + j * 12 + 10, none⟩ = some (.int .u64 m.d6) := fa 10 _ (by omega) rfl
        have x11 : wr.cell? ⟨ga, oa + j * 12 + 11, none⟩ = some (.int .u64 m.d7) := fa 11 _ (by omega) rfl
        have y0 : wr.cell? ⟨gb, ob + j * 12, none⟩ = some (.int .i64 m'.k) := fb 0 _ (by omega) rfl
        have y1 : wr.cell? ⟨gb, ob + j * 12 + 1, none⟩ = some (.int .i64 m'.l) := fb 1 _ (by omega) rfl
        have y2 : wr.cell? ⟨gb, ob + j * 12 + 2, none⟩ = some (.bool m'.a) := fb 2 _ (by omega) rfl
        have y3 : wr.cell? ⟨gb, ob + j * 12 + 3, none⟩ = some (.bool m'.b) := fb 3 _ (by omega) rfl
        have y4 : wr.cell? ⟨gb, ob + j * 12 + 4, none⟩ = some (.int .u64 m'.d0) := fb 4 _ (by omega) rfl
        have y5 : wr.cell? ⟨gb, ob + j * 12 + 5, none⟩ = some (.int .u64 m'.d1) := fb 5 _ (by omega) rfl
        have y6 : wr.cell? ⟨gb, ob + j * 12 + 6, none⟩ = some (.int .u64 m'.d2) := fb 6 _ (by omega) rfl
        have y7 : wr.cell? ⟨gb, ob + j * 12 + 7, none⟩ = some (.int .u64 m'.d3) := fb 7 _ (by omega) rfl
        have y8 : wr.cell? ⟨gb, ob + j * 12 + 8, none⟩ = some (.int .u64 m'.d4) := fb 8 _ (by omega) rfl
        have y9 : wr.cell? ⟨gb, ob + j * 12 + 9, none⟩ = some (.int .u64 m'.d5) := fb 9 _ (by omega) rfl
        have y10 : wr.cell? ⟨gb, ob + j * 12 + 10, none⟩ = some (.int .u64 m'.d6) := fb 10 _ (by omega) rfl
        have y11 : wr.cell? ⟨gb, ob + j * 12 + 11, none⟩ = some (.int .u64 m'.d7) := fb 11 _ (by omega) rfl
        have HF := Lib.hid fa; have HF' := Lib.hid fb; have HE := Lib.hid hE; have HM := Lib.hid hm; have HM' := Lib.hid hm'; have HCA := Lib.hid hca; have HCB := Lib.hid hcb
        clear fa fb hE hm hm' hca hcb
        have hj0 : (0 : Int) ≤ (j : Int) := by omega
        have hj1 : (j : Int) < (n : Int) := by omega
        by_cases he : eqM m m' = true
        · go_wp2
          go_quiet (fail)
          go_wp2
          go_roundw
          case rel => exact ⟨j + 1, by omega, by go_num, below_drewN hB _, msgs_any_next HM.out HM'.out ((eqM_iff _ _).1 he) HE.out⟩
          case measure => simp [intOf]; omega
        · have he' : eqM m m' = false := by simpa using he
          have hne : ¬ ms = ms' := fun h => he ((eqM_iff _ _).2 (by have h1 := HM.out; rw [h, HM'.out] at h1; exact (Option.some.inj h1).symm))
          have hd : decide (ms = ms') = false := decide_eq_false hne
          have HD := Lib.hid hd
          clear he hne hd
          go_wp2
          go_quiet (fail)
          go_wp2
          go_ret
          exact ⟨by rw [HD.out]; rfl, below_drewN hB _⟩
      · have hjn : j = n := by omega
        have hms : ms = ms' := List.ext_getElem? fun t => by
          rcases Nat.lt_or_ge t j with h | h
          · exact hE t h
          · rw [List.getElem?_eq_none (by rw [HN.out]; omega), List.getElem?_eq_none (by rw [HN'.out]; omega)]
        have hd : decide (ms = ms') = true := decide_eq_true hms
        have HD := Lib.hid hd
        clear hms hd hE hjn hca hcb
        go_wp2
        go_ret
        exact ⟨by rw [HD.out]; rfl, hB⟩
  · have hd : decide (ms = ms') = false := decide_eq_false (fun h => hlen (by rw [h]))
    have hl' : ((ms.length : Int) != (ms'.length : Int)) = true := by simp; omega
    have HD := Lib.hid hd
    clear hd hlen p4 p5 q4 q5
    go_enter Try.func22, Try.ntmps22
    go_wp2
    go_ret
    exact ⟨by rw [HD.out]; rfl, Below.refl _ _⟩

set_option maxHeartbeats 400000 in
theorem all_any (q base : Nat) (v : Value) (ms : List M) (w : World) (hQ : QAt w q base v ms.length (encMs ms)) (hn : ms.length ≤ 100000) :
    Calls Try.prog 23 #[.pointer (some ⟨q, 0, none⟩)] w fun e w' => ∃ v', e = .returned v' ∧ Own w' w.heap.size 26 12 v' ms.length (encMs ms) ∧ Below w.heap.size w w' := by
  have hc := hQ.cell
  have hr := hQ.own.rds
  have HR := Lib.hid hr
  clear hr hQ
  go_enter Try.func23, Try.ntmps23
  go_wp2_with (fail)
  refine (clone_any v ms.length (encMs ms) _ HR.out (encMs_one ms) (by omega)).mono ?_
  rintro e w' ⟨v', rfl, ho, hb⟩
  have HO := Lib.hid ho; have HB := Lib.hid hb
  clear ho hb
  go_wp2
  go_ret
  exact ⟨v', rfl, HO.out, HB.out⟩
theorem all_nil (w : World) : Calls Try.prog 23 #[.pointer none] w fun e w' => e = .returned (.slice none 0 0) ∧ w = w' := by
  go_enter Try.func23, Try.ntmps23
  go_wp2
  go_ret
  exact ⟨rfl, rfl⟩
end Go.Proofs.Ytjkckcmogpipmaa
