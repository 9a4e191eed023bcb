/-
  What a heap has, and where: all getters, the program's and the reference's.
-/
import Derived.Test.YtejeghfddnbhaaaOf
import Derived.Test.YtejeghfddnbhaaaRgood
namespace Go.Proofs.Ytejeghfddnbhaaa
open Go.RowKit
attribute [local go_sem ↓] Go.wp_at_zero Go.wp_at_succ
theorem goodH_b {a b c d e f g p q : Int} (h : goodH a b c d e f g p q = true) : 2 ≤ b ∧ b ≤ 64 ∧ 1 ≤ c ∧ c ≤ b - 1 ∧ 1 ≤ p ∧ p ≤ 16 ∧ 1 ≤ q ∧ q ≤ 16 ∧ c + 1 + p + q ≤ b := by
  unfold goodH at h
  obtain ⟨h1, h2⟩ := Bool.and_eq_true_iff.1 h
  have h2 := of_decide_eq_true h2
  have h1 := goodC_b h1
  omega
/-- What a heap tells of itself. -/
def countI (G : Bool) (c : Int) : Int := if G then addrW c 0 else 0
def roomI (G : Bool) (p : Int) : Int := if G then 4 * p else 0
def wordsI (G : Bool) (q : Int) : Int := if G then 8 * q else 0
def entryI (G : Bool) (c p n : Int) : Int := if G && decide (0 ≤ n ∧ n < 4 * p) then addrW (c + 1 + n / 4) (2 * (n % 4)) else 0
def wordI (G : Bool) (c p q n : Int) : Int := if G && decide (0 ≤ n ∧ n < 8 * q) then addrW (c + 1 + p + n / 8) (n % 8) else 0
theorem ret_i64 {a b : Int} (h : a = b) : Ending.returned (.int .i64 a) = .returned (.int .i64 b) := by rw [h]
section
variable (a b c d e f g p q : Int)
set_option maxRecDepth 100000 in
set_option maxHeartbeats 8000000 in
theorem gd_any (w : World) : Calls Try.prog 7 #[.agg #[.int .i64 a, .int .i64 b, .int .i64 c, .int .i64 d, .int .i64 e, .int .i64 f, .int .i64 g, .int .i64 p, .int .i64 q]] w fun E w' => E = .returned (.bool (goodH a b c d e f g p q)) ∧ Below w.heap.size w w' := by
  obtain ⟨G, hG⟩ : ∃ G, goodH a b c d e f g p q = G := ⟨_, rfl⟩
  have hof := fun w => of_any a b c d e f g p q w
  have hgb := goodH_b (a := a) (b := b) (c := c) (d := d) (e := e) (f := f) (g := g) (p := p) (q := q)
  simp only [hG] at hof hgb ⊢
  have HOF := Lib.hid hof
  clear hof hG
  go_enter Try.func7, Try.ntmps7
  go_wp2_with fail
  refine (HOF.out _).mono ?_
  rintro e w1 ⟨B, rfl, hb, x1, x2, x3, hx, hr⟩
  have HB := Lib.hid (Below.then (Below.al (Below.refl _ _) _) hb)
  have r3 : w1.cell? ⟨B, 3, none⟩ = some (.bool G) := by rw [cell_of_row _ _ _ _ 62 (0, 0) hr]; rfl
  have r4 : w1.cell? ⟨B, 4, none⟩ = some (.int .i64 x1) := by rw [cell_of_row _ _ _ _ 62 (0, 0) hr]; rfl
  have r5 : w1.cell? ⟨B, 5, none⟩ = some (.int .i64 x2) := by rw [cell_of_row _ _ _ _ 62 (0, 0) hr]; rfl
  have r6 : w1.cell? ⟨B, 6, none⟩ = some (.int .i64 q) := by rw [cell_of_row _ _ _ _ 62 (0, 0) hr]; rfl
  have r7 : w1.cell? ⟨B, 7, none⟩ = some (.int .i64 x3) := by rw [cell_of_row _ _ _ _ 62 (0, 0) hr]; rfl
  clear HOF hb hr
  clear hx hgb
  go_wp2
  go_ret
  exact ⟨rfl, HB.out⟩
set_option maxRecDepth 100000 in
set_option maxHeartbeats 8000000 in
theorem count_any (w : World) : Calls Try.prog 10 #[.agg #[.int .i64 a, .int .i64 b, .int .i64 c, .int .i64 d, .int .i64 e, .int .i64 f, .int .i64 g, .int .i64 p, .int .i64 q]] w fun E w' => E = .returned (.int .u64 (countI (goodH a b c d e f g p q) c)) ∧ Below w.heap.size w w' := by
  obtain ⟨G, hG⟩ : ∃ G, goodH a b c d e f g p q = G := ⟨_, rfl⟩
  have hof := fun w => of_any a b c d e f g p q w
  have hgb := goodH_b (a := a) (b := b) (c := c) (d := d) (e := e) (f := f) (g := g) (p := p) (q := q)
  simp only [hG] at hof hgb ⊢
  have HOF := Lib.hid hof
  clear hof hG
  cases G with
  | false =>
    clear hgb
    go_enter Try.func10, Try.ntmps10
    go_wp2_with fail
    refine (HOF.out _).mono ?_
    rintro e w1 ⟨B, rfl, hb, x1, x2, x3, hx, hr⟩
    have HB := Lib.hid (Below.then (Below.al (Below.refl _ _) _) hb)
    have r3 : w1.cell? ⟨B, 3, none⟩ = some (.bool false) := by rw [cell_of_row _ _ _ _ 62 (0, 0) hr]; rfl
    have r4 : w1.cell? ⟨B, 4, none⟩ = some (.int .i64 x1) := by rw [cell_of_row _ _ _ _ 62 (0, 0) hr]; rfl
    have r5 : w1.cell? ⟨B, 5, none⟩ = some (.int .i64 x2) := by rw [cell_of_row _ _ _ _ 62 (0, 0) hr]; rfl
    have r6 : w1.cell? ⟨B, 6, none⟩ = some (.int .i64 q) := by rw [cell_of_row _ _ _ _ 62 (0, 0) hr]; rfl
    have r7 : w1.cell? ⟨B, 7, none⟩ = some (.int .i64 x3) := by rw [cell_of_row _ _ _ _ 62 (0, 0) hr]; rfl
    clear HOF hb hr
    clear hx
    go_wp2
    go_ret
    exact ⟨rfl, HB.out⟩
  | true =>
    obtain ⟨t1, t2, t3, t4, t5, t6, t7, t8, t9⟩ := hgb rfl
    clear hgb
    go_enter Try.func10, Try.ntmps10
    go_wp2_with fail
    refine (HOF.out _).mono ?_
    rintro e w1 ⟨B, rfl, hb, x1, x2, x3, hx, hr⟩
    have HB := Lib.hid (Below.then (Below.al (Below.refl _ _) _) hb)
    have r3 : w1.cell? ⟨B, 3, none⟩ = some (.bool true) := by rw [cell_of_row _ _ _ _ 62 (0, 0) hr]; rfl
    have r4 : w1.cell? ⟨B, 4, none⟩ = some (.int .i64 x1) := by rw [cell_of_row _ _ _ _ 62 (0, 0) hr]; rfl
    have r5 : w1.cell? ⟨B, 5, none⟩ = some (.int .i64 x2) := by rw [cell_of_row _ _ _ _ 62 (0, 0) hr]; rfl
    have r6 : w1.cell? ⟨B, 6, none⟩ = some (.int .i64 q) := by rw [cell_of_row _ _ _ _ 62 (0, 0) hr]; rfl
    have r7 : w1.cell? ⟨B, 7, none⟩ = some (.int .i64 x3) := by rw [cell_of_row _ _ _ _ 62 (0, 0) hr]; rfl
    clear HOF hb hr
    obtain ⟨rfl, rfl, rfl⟩ := hx rfl
    clear hx
    go_wp2_with (go_at_call 31; refine (addr_any _ _ _).mono ?_; rintro e w2 ⟨rfl, rfl⟩)
    go_ret
    exact ⟨ret_u64 (by unfold countI; simp), HB.out⟩
set_option maxRecDepth 100000 in
set_option maxHeartbeats 8000000 in
theorem room_any (w : World) : Calls Try.prog 16 #[.agg #[.int .i64 a, .int .i64 b, .int .i64 c, .int .i64 d, .int .i64 e, .int .i64 f, .int .i64 g, .int .i64 p, .int .i64 q]] w fun E w' => E = .returned (.int .i64 (roomI (goodH a b c d e f g p q) p)) ∧ Below w.heap.size w w' := by
  obtain ⟨G, hG⟩ : ∃ G, goodH a b c d e f g p q = G := ⟨_, rfl⟩
  have hof := fun w => of_any a b c d e f g p q w
  have hgb := goodH_b (a := a) (b := b) (c := c) (d := d) (e := e) (f := f) (g := g) (p := p) (q := q)
  simp only [hG] at hof hgb ⊢
  have HOF := Lib.hid hof
  clear hof hG
  cases G with
  | false =>
    clear hgb
    go_enter Try.func16, Try.ntmps16
    go_wp2_with fail
    refine (HOF.out _).mono ?_
    rintro e w1 ⟨B, rfl, hb, x1, x2, x3, hx, hr⟩
    have HB := Lib.hid (Below.then (Below.al (Below.refl _ _) _) hb)
    have r3 : w1.cell? ⟨B, 3, none⟩ = some (.bool false) := by rw [cell_of_row _ _ _ _ 62 (0, 0) hr]; rfl
    have r4 : w1.cell? ⟨B, 4, none⟩ = some (.int .i64 x1) := by rw [cell_of_row _ _ _ _ 62 (0, 0) hr]; rfl
    have r5 : w1.cell? ⟨B, 5, none⟩ = some (.int .i64 x2) := by rw [cell_of_row _ _ _ _ 62 (0, 0) hr]; rfl
    have r6 : w1.cell? ⟨B, 6, none⟩ = some (.int .i64 q) := by rw [cell_of_row _ _ _ _ 62 (0, 0) hr]; rfl
    have r7 : w1.cell? ⟨B, 7, none⟩ = some (.int .i64 x3) := by rw [cell_of_row _ _ _ _ 62 (0, 0) hr]; rfl
    clear HOF hb hr
    clear hx
    go_wp2
    go_ret
    exact ⟨rfl, HB.out⟩
  | true =>
    obtain ⟨t1, t2, t3, t4, t5, t6, t7, t8, t9⟩ := hgb rfl
    clear hgb
    go_enter Try.func16, Try.ntmps16
    go_wp2_with fail
    refine (HOF.out _).mono ?_
    rintro e w1 ⟨B, rfl, hb, x1, x2, x3, hx, hr⟩
    have HB := Lib.hid (Below.then (Below.al (Below.refl _ _) _) hb)
    have r3 : w1.cell? ⟨B, 3, none⟩ = some (.bool true) := by rw [cell_of_row _ _ _ _ 62 (0, 0) hr]; rfl
    have r4 : w1.cell? ⟨B, 4, none⟩ = some (.int .i64 x1) := by rw [cell_of_row _ _ _ _ 62 (0, 0) hr]; rfl
    have r5 : w1.cell? ⟨B, 5, none⟩ = some (.int .i64 x2) := by rw [cell_of_row _ _ _ _ 62 (0, 0) hr]; rfl
    have r6 : w1.cell? ⟨B, 6, none⟩ = some (.int .i64 q) := by rw [cell_of_row _ _ _ _ 62 (0, 0) hr]; rfl
    have r7 : w1.cell? ⟨B, 7, none⟩ = some (.int .i64 x3) := by rw [cell_of_row _ _ _ _ 62 (0, 0) hr]; rfl
    clear HOF hb hr
    obtain ⟨rfl, rfl, rfl⟩ := hx rfl
    clear hx
    go_wp2
    go_ret
    exact ⟨ret_i64 rfl, HB.out⟩
set_option maxRecDepth 100000 in
set_option maxHeartbeats 8000000 in
theorem words_any (w : World) : Calls Try.prog 18 #[.agg #[.int .i64 a, .int .i64 b, .int .i64 c, .int .i64 d, .int .i64 e, .int .i64 f, .int .i64 g, .int .i64 p, .int .i64 q]] w fun E w' => E = .returned (.int .i64 (wordsI (goodH a b c d e f g p q) q)) ∧ Below w.heap.size w w' := by
  obtain ⟨G, hG⟩ : ∃ G, goodH a b c d e f g p q = G := ⟨_, rfl⟩
  have hof := fun w => of_any a b c d e f g p q w
  have hgb := goodH_b (a := a) (b := b) (c := c) (d := d) (e := e) (f := f) (g := g) (p := p) (q := q)
  simp only [hG] at hof hgb ⊢
  have HOF := Lib.hid hof
  clear hof hG
  cases G with
  | false =>
    clear hgb
    go_enter Try.func18, Try.ntmps18
    go_wp2_with fail
    refine (HOF.out _).mono ?_
    rintro e w1 ⟨B, rfl, hb, x1, x2, x3, hx, hr⟩
    have HB := Lib.hid (Below.then (Below.al (Below.refl _ _) _) hb)
    have r3 : w1.cell? ⟨B, 3, none⟩ = some (.bool false) := by rw [cell_of_row _ _ _ _ 62 (0, 0) hr]; rfl
    have r4 : w1.cell? ⟨B, 4, none⟩ = some (.int .i64 x1) := by rw [cell_of_row _ _ _ _ 62 (0, 0) hr]; rfl
    have r5 : w1.cell? ⟨B, 5, none⟩ = some (.int .i64 x2) := by rw [cell_of_row _ _ _ _ 62 (0, 0) hr]; rfl
    have r6 : w1.cell? ⟨B, 6, none⟩ = some (.int .i64 q) := by rw [cell_of_row _ _ _ _ 62 (0, 0) hr]; rfl
    have r7 : w1.cell? ⟨B, 7, none⟩ = some (.int .i64 x3) := by rw [cell_of_row _ _ _ _ 62 (0, 0) hr]; rfl
    clear HOF hb hr
    clear hx
    go_wp2
    go_ret
    exact ⟨rfl, HB.out⟩
  | true =>
    obtain ⟨t1, t2, t3, t4, t5, t6, t7, t8, t9⟩ := hgb rfl
    clear hgb
    go_enter Try.func18, Try.ntmps18
    go_wp2_with fail
    refine (HOF.out _).mono ?_
    rintro e w1 ⟨B, rfl, hb, x1, x2, x3, hx, hr⟩
    have HB := Lib.hid (Below.then (Below.al (Below.refl _ _) _) hb)
    have r3 : w1.cell? ⟨B, 3, none⟩ = some (.bool true) := by rw [cell_of_row _ _ _ _ 62 (0, 0) hr]; rfl
    have r4 : w1.cell? ⟨B, 4, none⟩ = some (.int .i64 x1) := by rw [cell_of_row _ _ _ _ 62 (0, 0) hr]; rfl
    have r5 : w1.cell? ⟨B, 5, none⟩ = some (.int .i64 x2) := by rw [cell_of_row _ _ _ _ 62 (0, 0) hr]; rfl
    have r6 : w1.cell? ⟨B, 6, none⟩ = some (.int .i64 q) := by rw [cell_of_row _ _ _ _ 62 (0, 0) hr]; rfl
    have r7 : w1.cell? ⟨B, 7, none⟩ = some (.int .i64 x3) := by rw [cell_of_row _ _ _ _ 62 (0, 0) hr]; rfl
    clear HOF hb hr
    obtain ⟨rfl, rfl, rfl⟩ := hx rfl
    clear hx
    go_wp2
    go_ret
    exact ⟨ret_i64 (by unfold wordsI; simp; omega), HB.out⟩
set_option maxRecDepth 100000 in
set_option maxHeartbeats 8000000 in
theorem entry_any (n : Int) (w : World) : Calls Try.prog 12 #[.agg #[.int .i64 a, .int .i64 b, .int .i64 c, .int .i64 d, .int .i64 e, .int .i64 f, .int .i64 g, .int .i64 p, .int .i64 q], .int .i64 n] w fun E w' => E = .returned (.int .u64 (entryI (goodH a b c d e f g p q) c p n)) ∧ Below w.heap.size w w' := by
  obtain ⟨G, hG⟩ : ∃ G, goodH a b c d e f g p q = G := ⟨_, rfl⟩
  have hof := fun w => of_any a b c d e f g p q w
  have hgb := goodH_b (a := a) (b := b) (c := c) (d := d) (e := e) (f := f) (g := g) (p := p) (q := q)
  simp only [hG] at hof hgb ⊢
  have HOF := Lib.hid hof
  clear hof hG
  cases G with
  | false =>
    clear hgb
    have HU := Lib.hid (show entryI false c p n = 0 from rfl)
    go_enter Try.func12, Try.ntmps12
    go_wp2_with fail
    refine (HOF.out _).mono ?_
    rintro e w1 ⟨B, rfl, hb, x1, x2, x3, hx, hr⟩
    have HB := Lib.hid (Below.then (Below.al (Below.refl _ _) _) hb)
    have r3 : w1.cell? ⟨B, 3, none⟩ = some (.bool false) := by rw [cell_of_row _ _ _ _ 62 (0, 0) hr]; rfl
    have r4 : w1.cell? ⟨B, 4, none⟩ = some (.int .i64 x1) := by rw [cell_of_row _ _ _ _ 62 (0, 0) hr]; rfl
    have r5 : w1.cell? ⟨B, 5, none⟩ = some (.int .i64 x2) := by rw [cell_of_row _ _ _ _ 62 (0, 0) hr]; rfl
    have r6 : w1.cell? ⟨B, 6, none⟩ = some (.int .i64 q) := by rw [cell_of_row _ _ _ _ 62 (0, 0) hr]; rfl
    have r7 : w1.cell? ⟨B, 7, none⟩ = some (.int .i64 x3) := by rw [cell_of_row _ _ _ _ 62 (0, 0) hr]; rfl
    clear HOF hb hr
    clear hx
    go_wp2
    go_ret
    exact ⟨ret_u64 HU.out.symm, HB.out⟩
  | true =>
    obtain ⟨t1, t2, t3, t4, t5, t6, t7, t8, t9⟩ := hgb rfl
    clear hgb
    by_cases n0 : 0 ≤ n
    · by_cases n1 : n < 4 * p
      · have HU := Lib.hid (show entryI true c p n = addrW (c + 1 + n / 4) (2 * (n % 4)) by simp [entryI, n0, n1])
        have d1 : n.tdiv 4 = n / 4 := Int.tdiv_eq_ediv_of_nonneg n0
        have d2 : n.tmod 4 = n % 4 := Int.tmod_eq_emod_of_nonneg n0
        have d3 : 0 ≤ n / 4 := by omega
        have d4 : n / 4 ≤ 31 := by omega
        have d5 : 0 ≤ n % 4 := by omega
        have d6 : n % 4 < 4 := by omega
        go_enter Try.func12, Try.ntmps12
        go_wp2_with fail
        refine (HOF.out _).mono ?_
        rintro e w1 ⟨B, rfl, hb, x1, x2, x3, hx, hr⟩
        have HB := Lib.hid (Below.then (Below.al (Below.refl _ _) _) hb)
        have r3 : w1.cell? ⟨B, 3, none⟩ = some (.bool true) := by rw [cell_of_row _ _ _ _ 62 (0, 0) hr]; rfl
        have r4 : w1.cell? ⟨B, 4, none⟩ = some (.int .i64 x1) := by rw [cell_of_row _ _ _ _ 62 (0, 0) hr]; rfl
        have r5 : w1.cell? ⟨B, 5, none⟩ = some (.int .i64 x2) := by rw [cell_of_row _ _ _ _ 62 (0, 0) hr]; rfl
        have r6 : w1.cell? ⟨B, 6, none⟩ = some (.int .i64 q) := by rw [cell_of_row _ _ _ _ 62 (0, 0) hr]; rfl
        have r7 : w1.cell? ⟨B, 7, none⟩ = some (.int .i64 x3) := by rw [cell_of_row _ _ _ _ 62 (0, 0) hr]; rfl
        clear HOF hb hr
        obtain ⟨rfl, rfl, rfl⟩ := hx rfl
        clear hx
        go_wp2_with (go_at_call 31; refine (addr_any _ _ _).mono ?_; rintro e w2 ⟨rfl, rfl⟩)
        go_ret
        exact ⟨ret_u64 (by rw [HU.out]; try (congr 1; omega)), HB.out⟩
      · have HU := Lib.hid (show entryI true c p n = 0 by simp [entryI, n0, n1])
        go_enter Try.func12, Try.ntmps12
        go_wp2_with fail
        refine (HOF.out _).mono ?_
        rintro e w1 ⟨B, rfl, hb, x1, x2, x3, hx, hr⟩
        have HB := Lib.hid (Below.then (Below.al (Below.refl _ _) _) hb)
        have r3 : w1.cell? ⟨B, 3, none⟩ = some (.bool true) := by rw [cell_of_row _ _ _ _ 62 (0, 0) hr]; rfl
        have r4 : w1.cell? ⟨B, 4, none⟩ = some (.int .i64 x1) := by rw [cell_of_row _ _ _ _ 62 (0, 0) hr]; rfl
        have r5 : w1.cell? ⟨B, 5, none⟩ = some (.int .i64 x2) := by rw [cell_of_row _ _ _ _ 62 (0, 0) hr]; rfl
        have r6 : w1.cell? ⟨B, 6, none⟩ = some (.int .i64 q) := by rw [cell_of_row _ _ _ _ 62 (0, 0) hr]; rfl
        have r7 : w1.cell? ⟨B, 7, none⟩ = some (.int .i64 x3) := by rw [cell_of_row _ _ _ _ 62 (0, 0) hr]; rfl
        clear HOF hb hr
        obtain ⟨rfl, rfl, rfl⟩ := hx rfl
        clear hx
        go_wp2
        go_ret
        exact ⟨ret_u64 HU.out.symm, HB.out⟩
    · have HU := Lib.hid (show entryI true c p n = 0 by simp [entryI, n0])
      go_enter Try.func12, Try.ntmps12
      go_wp2_with fail
      refine (HOF.out _).mono ?_
      rintro e w1 ⟨B, rfl, hb, x1, x2, x3, hx, hr⟩
      have HB := Lib.hid (Below.then (Below.al (Below.refl _ _) _) hb)
      have r3 : w1.cell? ⟨B, 3, none⟩ = some (.bool true) := by rw [cell_of_row _ _ _ _ 62 (0, 0) hr]; rfl
      have r4 : w1.cell? ⟨B, 4, none⟩ = some (.int .i64 x1) := by rw [cell_of_row _ _ _ _ 62 (0, 0) hr]; rfl
      have r5 : w1.cell? ⟨B, 5, none⟩ = some (.int .i64 x2) := by rw [cell_of_row _ _ _ _ 62 (0, 0) hr]; rfl
      have r6 : w1.cell? ⟨B, 6, none⟩ = some (.int .i64 q) := by rw [cell_of_row _ _ _ _ 62 (0, 0) hr]; rfl
      have r7 : w1.cell? ⟨B, 7, none⟩ = some (.int .i64 x3) := by rw [cell_of_row _ _ _ _ 62 (0, 0) hr]; rfl
      clear HOF hb hr
      obtain ⟨rfl, rfl, rfl⟩ := hx rfl
      clear hx
      go_wp2
      go_ret
      exact ⟨ret_u64 HU.out.symm, HB.out⟩
set_option maxRecDepth 100000 in
set_option maxHeartbeats 8000000 in
theorem word_any (n : Int) (w : World) : Calls Try.prog 14 #[.agg #[.int .i64 a, .int .i64 b, .int .i64 c, .int .i64 d, .int .i64 e, .int .i64 f, .int .i64 g, .int .i64 p, .int .i64 q], .int .i64 n] w fun E w' => E = .returned (.int .u64 (wordI (goodH a b c d e f g p q) c p q n)) ∧ Below w.heap.size w w' := by
  obtain ⟨G, hG⟩ : ∃ G, goodH a b c d e f g p q = G := ⟨_, rfl⟩
  have hof := fun w => of_any a b c d e f g p q w
  have hgb := goodH_b (a := a) (b := b) (c := c) (d := d) (e := e) (f := f) (g := g) (p := p) (q := q)
  simp only [hG] at hof hgb ⊢
  have HOF := Lib.hid hof
  clear hof hG
  cases G with
  | false =>
    clear hgb
    have HU := Lib.hid (show wordI false c p q n = 0 from rfl)
    go_enter Try.func14, Try.ntmps14
    go_wp2_with fail
    refine (HOF.out _).mono ?_
    rintro e w1 ⟨B, rfl, hb, x1, x2, x3, hx, hr⟩
    have HB := Lib.hid (Below.then (Below.al (Below.refl _ _) _) hb)
    have r3 : w1.cell? ⟨B, 3, none⟩ = some (.bool false) := by rw [cell_of_row _ _ _ _ 62 (0, 0) hr]; rfl
    have r4 : w1.cell? ⟨B, 4, none⟩ = some (.int .i64 x1) := by rw [cell_of_row _ _ _ _ 62 (0, 0) hr]; rfl
    have r5 : w1.cell? ⟨B, 5, none⟩ = some (.int .i64 x2) := by rw [cell_of_row _ _ _ _ 62 (0, 0) hr]; rfl
    have r6 : w1.cell? ⟨B, 6, none⟩ = some (.int .i64 q) := by rw [cell_of_row _ _ _ _ 62 (0, 0) hr]; rfl
    have r7 : w1.cell? ⟨B, 7, none⟩ = some (.int .i64 x3) := by rw [cell_of_row _ _ _ _ 62 (0, 0) hr]; rfl
    clear HOF hb hr
    clear hx
    go_wp2
    go_ret
    exact ⟨ret_u64 HU.out.symm, HB.out⟩
  | true =>
    obtain ⟨t1, t2, t3, t4, t5, t6, t7, t8, t9⟩ := hgb rfl
    clear hgb
    by_cases n0 : 0 ≤ n
    · by_cases n1 : n < 8 * q
      · have HU := Lib.hid (show wordI true c p q n = addrW (c + 1 + p + n / 8) (n % 8) by simp [wordI, n0, n1])
        have d1 : n.tdiv 8 = n / 8 := Int.tdiv_eq_ediv_of_nonneg n0
        have d2 : n.tmod 8 = n % 8 := Int.tmod_eq_emod_of_nonneg n0
        have d3 : 0 ≤ n / 8 := by omega
        have d4 : n / 8 ≤ 31 := by omega
        have d5 : 0 ≤ n % 8 := by omega
        have d6 : n % 8 < 8 := by omega
        go_enter Try.func14, Try.ntmps14
        go_wp2_with fail
        refine (HOF.out _).mono ?_
        rintro e w1 ⟨B, rfl, hb, x1, x2, x3, hx, hr⟩
        have HB := Lib.hid (Below.then (Below.al (Below.refl _ _) _) hb)
        have r3 : w1.cell? ⟨B, 3, none⟩ = some (.bool true) := by rw [cell_of_row _ _ _ _ 62 (0, 0) hr]; rfl
        have r4 : w1.cell? ⟨B, 4, none⟩ = some (.int .i64 x1) := by rw [cell_of_row _ _ _ _ 62 (0, 0) hr]; rfl
        have r5 : w1.cell? ⟨B, 5, none⟩ = some (.int .i64 x2) := by rw [cell_of_row _ _ _ _ 62 (0, 0) hr]; rfl
        have r6 : w1.cell? ⟨B, 6, none⟩ = some (.int .i64 q) := by rw [cell_of_row _ _ _ _ 62 (0, 0) hr]; rfl
        have r7 : w1.cell? ⟨B, 7, none⟩ = some (.int .i64 x3) := by rw [cell_of_row _ _ _ _ 62 (0, 0) hr]; rfl
        clear HOF hb hr
        obtain ⟨rfl, rfl, rfl⟩ := hx rfl
        clear hx
        go_wp2_with (go_at_call 31; refine (addr_any _ _ _).mono ?_; rintro e w2 ⟨rfl, rfl⟩)
        go_ret
        exact ⟨ret_u64 (by rw [HU.out]; try (congr 1; omega)), HB.out⟩
      · have HU := Lib.hid (show wordI true c p q n = 0 by simp [wordI, n0, n1])
        go_enter Try.func14, Try.ntmps14
        go_wp2_with fail
        refine (HOF.out _).mono ?_
        rintro e w1 ⟨B, rfl, hb, x1, x2, x3, hx, hr⟩
        have HB := Lib.hid (Below.then (Below.al (Below.refl _ _) _) hb)
        have r3 : w1.cell? ⟨B, 3, none⟩ = some (.bool true) := by rw [cell_of_row _ _ _ _ 62 (0, 0) hr]; rfl
        have r4 : w1.cell? ⟨B, 4, none⟩ = some (.int .i64 x1) := by rw [cell_of_row _ _ _ _ 62 (0, 0) hr]; rfl
        have r5 : w1.cell? ⟨B, 5, none⟩ = some (.int .i64 x2) := by rw [cell_of_row _ _ _ _ 62 (0, 0) hr]; rfl
        have r6 : w1.cell? ⟨B, 6, none⟩ = some (.int .i64 q) := by rw [cell_of_row _ _ _ _ 62 (0, 0) hr]; rfl
        have r7 : w1.cell? ⟨B, 7, none⟩ = some (.int .i64 x3) := by rw [cell_of_row _ _ _ _ 62 (0, 0) hr]; rfl
        clear HOF hb hr
        obtain ⟨rfl, rfl, rfl⟩ := hx rfl
        clear hx
        go_wp2
        go_ret
        exact ⟨ret_u64 HU.out.symm, HB.out⟩
    · have HU := Lib.hid (show wordI true c p q n = 0 by simp [wordI, n0])
      go_enter Try.func14, Try.ntmps14
      go_wp2_with fail
      refine (HOF.out _).mono ?_
      rintro e w1 ⟨B, rfl, hb, x1, x2, x3, hx, hr⟩
      have HB := Lib.hid (Below.then (Below.al (Below.refl _ _) _) hb)
      have r3 : w1.cell? ⟨B, 3, none⟩ = some (.bool true) := by rw [cell_of_row _ _ _ _ 62 (0, 0) hr]; rfl
      have r4 : w1.cell? ⟨B, 4, none⟩ = some (.int .i64 x1) := by rw [cell_of_row _ _ _ _ 62 (0, 0) hr]; rfl
      have r5 : w1.cell? ⟨B, 5, none⟩ = some (.int .i64 x2) := by rw [cell_of_row _ _ _ _ 62 (0, 0) hr]; rfl
      have r6 : w1.cell? ⟨B, 6, none⟩ = some (.int .i64 q) := by rw [cell_of_row _ _ _ _ 62 (0, 0) hr]; rfl
      have r7 : w1.cell? ⟨B, 7, none⟩ = some (.int .i64 x3) := by rw [cell_of_row _ _ _ _ 62 (0, 0) hr]; rfl
      clear HOF hb hr
      obtain ⟨rfl, rfl, rfl⟩ := hx rfl
      clear hx
      go_wp2
      go_ret
      exact ⟨ret_u64 HU.out.symm, HB.out⟩
set_option maxRecDepth 100000 in
set_option maxHeartbeats 8000000 in
theorem lock_any (w : World) : Calls Try.prog 9 #[.agg #[.int .i64 a, .int .i64 b, .int .i64 c, .int .i64 d, .int .i64 e, .int .i64 f, .int .i64 g, .int .i64 p, .int .i64 q]] w fun E w' => E = .returned (.int .u64 0) ∧ Below w.heap.size w w' := by
  have e0 : addrW 0 0 = 0 := rfl
  go_enter Try.func9, Try.ntmps9
  go_wp2_with (go_at_call 31; refine (addr_any _ _ _).mono ?_; rintro e w2 ⟨rfl, rfl⟩)
  go_ret
  exact ⟨rfl, Below.al (Below.refl _ _) _⟩
set_option maxRecDepth 100000 in
set_option maxHeartbeats 8000000 in
theorem first_any (w : World) (t1 : 1 ≤ c) (t2 : c ≤ 64) (t3 : 1 ≤ p) (t4 : p ≤ 16) : Calls Try.prog 33 #[.agg #[.int .i64 a, .int .i64 b, .int .i64 c, .int .i64 d, .int .i64 e, .int .i64 f, .int .i64 g, .int .i64 p, .int .i64 q]] w fun E w' => E = .returned (.int .i64 (c + 1 + p)) ∧ Below w.heap.size w w' := by
  go_enter Try.func33, Try.ntmps33
  go_wp2
  go_ret
  exact ⟨rfl, Below.al (Below.refl _ _) _⟩
set_option maxRecDepth 100000 in
set_option maxHeartbeats 8000000 in
theorem rcount_any (w : World) : Calls Try.prog 11 #[.agg #[.int .i64 a, .int .i64 b, .int .i64 c, .int .i64 d, .int .i64 e, .int .i64 f, .int .i64 g, .int .i64 p, .int .i64 q]] w fun E w' => E = .returned (.int .u64 (countI (goodH a b c d e f g p q) c)) ∧ Below w.heap.size w w' := by
  obtain ⟨G, hG⟩ : ∃ G, goodH a b c d e f g p q = G := ⟨_, rfl⟩
  have hof := fun w => rgood_any a b c d e f g p q w
  have hgb := goodH_b (a := a) (b := b) (c := c) (d := d) (e := e) (f := f) (g := g) (p := p) (q := q)
  simp only [hG] at hof hgb ⊢
  have HOF := Lib.hid hof
  clear hof hG
  cases G with
  | false =>
    clear hgb
    go_enter Try.func11, Try.ntmps11
    go_wp2_with fail
    refine (HOF.out _).mono ?_
    rintro e w1 ⟨rfl, hB1⟩
    obtain ⟨hbx, hold⟩ := past_box hB1
    have HB := Lib.hid (Below.then (Below.al (Below.refl _ _) _) hB1)
    have q0 : w1.cell? ⟨w.heap.size, 0, none⟩ = some (.int .i64 a) := by rw [cell_of_row _ _ _ _ 25 (0, 0) hbx]; rfl
    have q1 : w1.cell? ⟨w.heap.size, 1, none⟩ = some (.int .i64 b) := by rw [cell_of_row _ _ _ _ 25 (0, 0) hbx]; rfl
    have q3 : w1.cell? ⟨w.heap.size, 3, none⟩ = some (.int .i64 d) := by rw [cell_of_row _ _ _ _ 25 (0, 0) hbx]; rfl
    have q4 : w1.cell? ⟨w.heap.size, 4, none⟩ = some (.int .i64 e) := by rw [cell_of_row _ _ _ _ 25 (0, 0) hbx]; rfl
    have q5 : w1.cell? ⟨w.heap.size, 5, none⟩ = some (.int .i64 f) := by rw [cell_of_row _ _ _ _ 25 (0, 0) hbx]; rfl
    have q6 : w1.cell? ⟨w.heap.size, 6, none⟩ = some (.int .i64 g) := by rw [cell_of_row _ _ _ _ 25 (0, 0) hbx]; rfl
    have q2 : w1.cell? ⟨w.heap.size, 2, none⟩ = some (.int .i64 c) := by rw [cell_of_row _ _ _ _ 25 (0, 0) hbx]; rfl
    have q7 : w1.cell? ⟨w.heap.size, 7, none⟩ = some (.int .i64 p) := by rw [cell_of_row _ _ _ _ 25 (0, 0) hbx]; rfl
    have q8 : w1.cell? ⟨w.heap.size, 8, none⟩ = some (.int .i64 q) := by rw [cell_of_row _ _ _ _ 25 (0, 0) hbx]; rfl
    clear HOF hB1 hbx hold
    go_wp2
    go_ret
    exact ⟨rfl, HB.out⟩
  | true =>
    obtain ⟨t1, t2, t3, t4, t5, t6, t7, t8, t9⟩ := hgb rfl
    clear hgb
    go_enter Try.func11, Try.ntmps11
    go_wp2_with fail
    refine (HOF.out _).mono ?_
    rintro e w1 ⟨rfl, hB1⟩
    obtain ⟨hbx, hold⟩ := past_box hB1
    have HB := Lib.hid (Below.then (Below.al (Below.refl _ _) _) hB1)
    have q0 : w1.cell? ⟨w.heap.size, 0, none⟩ = some (.int .i64 a) := by rw [cell_of_row _ _ _ _ 25 (0, 0) hbx]; rfl
    have q1 : w1.cell? ⟨w.heap.size, 1, none⟩ = some (.int .i64 b) := by rw [cell_of_row _ _ _ _ 25 (0, 0) hbx]; rfl
    have q3 : w1.cell? ⟨w.heap.size, 3, none⟩ = some (.int .i64 d) := by rw [cell_of_row _ _ _ _ 25 (0, 0) hbx]; rfl
    have q4 : w1.cell? ⟨w.heap.size, 4, none⟩ = some (.int .i64 e) := by rw [cell_of_row _ _ _ _ 25 (0, 0) hbx]; rfl
    have q5 : w1.cell? ⟨w.heap.size, 5, none⟩ = some (.int .i64 f) := by rw [cell_of_row _ _ _ _ 25 (0, 0) hbx]; rfl
    have q6 : w1.cell? ⟨w.heap.size, 6, none⟩ = some (.int .i64 g) := by rw [cell_of_row _ _ _ _ 25 (0, 0) hbx]; rfl
    have q2 : w1.cell? ⟨w.heap.size, 2, none⟩ = some (.int .i64 c) := by rw [cell_of_row _ _ _ _ 25 (0, 0) hbx]; rfl
    have q7 : w1.cell? ⟨w.heap.size, 7, none⟩ = some (.int .i64 p) := by rw [cell_of_row _ _ _ _ 25 (0, 0) hbx]; rfl
    have q8 : w1.cell? ⟨w.heap.size, 8, none⟩ = some (.int .i64 q) := by rw [cell_of_row _ _ _ _ 25 (0, 0) hbx]; rfl
    clear HOF hB1 hbx hold
    go_wp2_with (go_at_call 32; refine (raddr_any _ _ _).mono ?_; rintro e w2 ⟨rfl, rfl⟩)
    go_ret
    exact ⟨ret_u64 (by unfold countI; simp), HB.out⟩
set_option maxRecDepth 100000 in
set_option maxHeartbeats 8000000 in
theorem rroom_any (w : World) : Calls Try.prog 17 #[.agg #[.int .i64 a, .int .i64 b, .int .i64 c, .int .i64 d, .int .i64 e, .int .i64 f, .int .i64 g, .int .i64 p, .int .i64 q]] w fun E w' => E = .returned (.int .i64 (roomI (goodH a b c d e f g p q) p)) ∧ Below w.heap.size w w' := by
  obtain ⟨G, hG⟩ : ∃ G, goodH a b c d e f g p q = G := ⟨_, rfl⟩
  have hof := fun w => rgood_any a b c d e f g p q w
  have hgb := goodH_b (a := a) (b := b) (c := c) (d := d) (e := e) (f := f) (g := g) (p := p) (q := q)
  simp only [hG] at hof hgb ⊢
  have HOF := Lib.hid hof
  clear hof hG
  cases G with
  | false =>
    clear hgb
    go_enter Try.func17, Try.ntmps17
    go_wp2_with fail
    refine (HOF.out _).mono ?_
    rintro e w1 ⟨rfl, hB1⟩
    obtain ⟨hbx, hold⟩ := past_box hB1
    have HB := Lib.hid (Below.then (Below.al (Below.refl _ _) _) hB1)
    have q0 : w1.cell? ⟨w.heap.size, 0, none⟩ = some (.int .i64 a) := by rw [cell_of_row _ _ _ _ 25 (0, 0) hbx]; rfl
    have q1 : w1.cell? ⟨w.heap.size, 1, none⟩ = some (.int .i64 b) := by rw [cell_of_row _ _ _ _ 25 (0, 0) hbx]; rfl
    have q3 : w1.cell? ⟨w.heap.size, 3, none⟩ = some (.int .i64 d) := by rw [cell_of_row _ _ _ _ 25 (0, 0) hbx]; rfl
    have q4 : w1.cell? ⟨w.heap.size, 4, none⟩ = some (.int .i64 e) := by rw [cell_of_row _ _ _ _ 25 (0, 0) hbx]; rfl
    have q5 : w1.cell? ⟨w.heap.size, 5, none⟩ = some (.int .i64 f) := by rw [cell_of_row _ _ _ _ 25 (0, 0) hbx]; rfl
    have q6 : w1.cell? ⟨w.heap.size, 6, none⟩ = some (.int .i64 g) := by rw [cell_of_row _ _ _ _ 25 (0, 0) hbx]; rfl
    have q2 : w1.cell? ⟨w.heap.size, 2, none⟩ = some (.int .i64 c) := by rw [cell_of_row _ _ _ _ 25 (0, 0) hbx]; rfl
    have q7 : w1.cell? ⟨w.heap.size, 7, none⟩ = some (.int .i64 p) := by rw [cell_of_row _ _ _ _ 25 (0, 0) hbx]; rfl
    have q8 : w1.cell? ⟨w.heap.size, 8, none⟩ = some (.int .i64 q) := by rw [cell_of_row _ _ _ _ 25 (0, 0) hbx]; rfl
    clear HOF hB1 hbx hold
    go_wp2
    go_ret
    exact ⟨rfl, HB.out⟩
  | true =>
    obtain ⟨t1, t2, t3, t4, t5, t6, t7, t8, t9⟩ := hgb rfl
    clear hgb
    go_enter Try.func17, Try.ntmps17
    go_wp2_with fail
    refine (HOF.out _).mono ?_
    rintro e w1 ⟨rfl, hB1⟩
    obtain ⟨hbx, hold⟩ := past_box hB1
    have HB := Lib.hid (Below.then (Below.al (Below.refl _ _) _) hB1)
    have q0 : w1.cell? ⟨w.heap.size, 0, none⟩ = some (.int .i64 a) := by rw [cell_of_row _ _ _ _ 25 (0, 0) hbx]; rfl
    have q1 : w1.cell? ⟨w.heap.size, 1, none⟩ = some (.int .i64 b) := by rw [cell_of_row _ _ _ _ 25 (0, 0) hbx]; rfl
    have q3 : w1.cell? ⟨w.heap.size, 3, none⟩ = some (.int .i64 d) := by rw [cell_of_row _ _ _ _ 25 (0, 0) hbx]; rfl
    have q4 : w1.cell? ⟨w.heap.size, 4, none⟩ = some (.int .i64 e) := by rw [cell_of_row _ _ _ _ 25 (0, 0) hbx]; rfl
    have q5 : w1.cell? ⟨w.heap.size, 5, none⟩ = some (.int .i64 f) := by rw [cell_of_row _ _ _ _ 25 (0, 0) hbx]; rfl
    have q6 : w1.cell? ⟨w.heap.size, 6, none⟩ = some (.int .i64 g) := by rw [cell_of_row _ _ _ _ 25 (0, 0) hbx]; rfl
    have q2 : w1.cell? ⟨w.heap.size, 2, none⟩ = some (.int .i64 c) := by rw [cell_of_row _ _ _ _ 25 (0, 0) hbx]; rfl
    have q7 : w1.cell? ⟨w.heap.size, 7, none⟩ = some (.int .i64 p) := by rw [cell_of_row _ _ _ _ 25 (0, 0) hbx]; rfl
    have q8 : w1.cell? ⟨w.heap.size, 8, none⟩ = some (.int .i64 q) := by rw [cell_of_row _ _ _ _ 25 (0, 0) hbx]; rfl
    clear HOF hB1 hbx hold
    go_wp2
    go_ret
    exact ⟨ret_i64 rfl, HB.out⟩
set_option maxRecDepth 100000 in
set_option maxHeartbeats 8000000 in
theorem rwords_any (w : World) : Calls Try.prog 19 #[.agg #[.int .i64 a, .int .i64 b, .int .i64 c, .int .i64 d, .int .i64 e, .int .i64 f, .int .i64 g, .int .i64 p, .int .i64 q]] w fun E w' => E = .returned (.int .i64 (wordsI (goodH a b c d e f g p q) q)) ∧ Below w.heap.size w w' := by
  obtain ⟨G, hG⟩ : ∃ G, goodH a b c d e f g p q = G := ⟨_, rfl⟩
  have hof := fun w => rgood_any a b c d e f g p q w
  have hgb := goodH_b (a := a) (b := b) (c := c) (d := d) (e := e) (f := f) (g := g) (p := p) (q := q)
  simp only [hG] at hof hgb ⊢
  have HOF := Lib.hid hof
  clear hof hG
  cases G with
  | false =>
    clear hgb
    go_enter Try.func19, Try.ntmps19
    go_wp2_with fail
    refine (HOF.out _).mono ?_
    rintro e w1 ⟨rfl, hB1⟩
    obtain ⟨hbx, hold⟩ := past_box hB1
    have HB := Lib.hid (Below.then (Below.al (Below.refl _ _) _) hB1)
    have q0 : w1.cell? ⟨w.heap.size, 0, none⟩ = some (.int .i64 a) := by rw [cell_of_row _ _ _ _ 25 (0, 0) hbx]; rfl
    have q1 : w1.cell? ⟨w.heap.size, 1, none⟩ = some (.int .i64 b) := by rw [cell_of_row _ _ _ _ 25 (0, 0) hbx]; rfl
    have q3 : w1.cell? ⟨w.heap.size, 3, none⟩ = some (.int .i64 d) := by rw [cell_of_row _ _ _ _ 25 (0, 0) hbx]; rfl
    have q4 : w1.cell? ⟨w.heap.size, 4, none⟩ = some (.int .i64 e) := by rw [cell_of_row _ _ _ _ 25 (0, 0) hbx]; rfl
    have q5 : w1.cell? ⟨w.heap.size, 5, none⟩ = some (.int .i64 f) := by rw [cell_of_row _ _ _ _ 25 (0, 0) hbx]; rfl
    have q6 : w1.cell? ⟨w.heap.size, 6, none⟩ = some (.int .i64 g) := by rw [cell_of_row _ _ _ _ 25 (0, 0) hbx]; rfl
    have q2 : w1.cell? ⟨w.heap.size, 2, none⟩ = some (.int .i64 c) := by rw [cell_of_row _ _ _ _ 25 (0, 0) hbx]; rfl
    have q7 : w1.cell? ⟨w.heap.size, 7, none⟩ = some (.int .i64 p) := by rw [cell_of_row _ _ _ _ 25 (0, 0) hbx]; rfl
    have q8 : w1.cell? ⟨w.heap.size, 8, none⟩ = some (.int .i64 q) := by rw [cell_of_row _ _ _ _ 25 (0, 0) hbx]; rfl
    clear HOF hB1 hbx hold
    go_wp2
    go_ret
    exact ⟨rfl, HB.out⟩
  | true =>
    obtain ⟨t1, t2, t3, t4, t5, t6, t7, t8, t9⟩ := hgb rfl
    clear hgb
    go_enter Try.func19, Try.ntmps19
    go_wp2_with fail
    refine (HOF.out _).mono ?_
    rintro e w1 ⟨rfl, hB1⟩
    obtain ⟨hbx, hold⟩ := past_box hB1
    have HB := Lib.hid (Below.then (Below.al (Below.refl _ _) _) hB1)
    have q0 : w1.cell? ⟨w.heap.size, 0, none⟩ = some (.int .i64 a) := by rw [cell_of_row _ _ _ _ 25 (0, 0) hbx]; rfl
    have q1 : w1.cell? ⟨w.heap.size, 1, none⟩ = some (.int .i64 b) := by rw [cell_of_row _ _ _ _ 25 (0, 0) hbx]; rfl
    have q3 : w1.cell? ⟨w.heap.size, 3, none⟩ = some (.int .i64 d) := by rw [cell_of_row _ _ _ _ 25 (0, 0) hbx]; rfl
    have q4 : w1.cell? ⟨w.heap.size, 4, none⟩ = some (.int .i64 e) := by rw [cell_of_row _ _ _ _ 25 (0, 0) hbx]; rfl
    have q5 : w1.cell? ⟨w.heap.size, 5, none⟩ = some (.int .i64 f) := by rw [cell_of_row _ _ _ _ 25 (0, 0) hbx]; rfl
    have q6 : w1.cell? ⟨w.heap.size, 6, none⟩ = some (.int .i64 g) := by rw [cell_of_row _ _ _ _ 25 (0, 0) hbx]; rfl
    have q2 : w1.cell? ⟨w.heap.size, 2, none⟩ = some (.int .i64 c) := by rw [cell_of_row _ _ _ _ 25 (0, 0) hbx]; rfl
    have q7 : w1.cell? ⟨w.heap.size, 7, none⟩ = some (.int .i64 p) := by rw [cell_of_row _ _ _ _ 25 (0, 0) hbx]; rfl
    have q8 : w1.cell? ⟨w.heap.size, 8, none⟩ = some (.int .i64 q) := by rw [cell_of_row _ _ _ _ 25 (0, 0) hbx]; rfl
    clear HOF hB1 hbx hold
    go_wp2
    go_ret
    exact ⟨ret_i64 rfl, HB.out⟩
set_option maxRecDepth 100000 in
set_option maxHeartbeats 8000000 in
theorem rentry_any (n : Int) (w : World) : Calls Try.prog 13 #[.agg #[.int .i64 a, .int .i64 b, .int .i64 c, .int .i64 d, .int .i64 e, .int .i64 f, .int .i64 g, .int .i64 p, .int .i64 q], .int .i64 n] w fun E w' => E = .returned (.int .u64 (entryI (goodH a b c d e f g p q) c p n)) ∧ Below w.heap.size w w' := by
  obtain ⟨G, hG⟩ : ∃ G, goodH a b c d e f g p q = G := ⟨_, rfl⟩
  have hof := fun w => rroom_any a b c d e f g p q w
  have hgb := goodH_b (a := a) (b := b) (c := c) (d := d) (e := e) (f := f) (g := g) (p := p) (q := q)
  simp only [hG] at hof hgb ⊢
  have HOF := Lib.hid hof
  clear hof hG
  by_cases n0 : 0 ≤ n
  · cases G with
    | false =>
      clear hgb
      have HU := Lib.hid (show entryI false c p n = 0 from rfl)
      have HOF := Lib.hid (show ∀ w, Calls Try.prog 17 #[.agg #[.int .i64 a, .int .i64 b, .int .i64 c, .int .i64 d, .int .i64 e, .int .i64 f, .int .i64 g, .int .i64 p, .int .i64 q]] w fun E w' => E = .returned (.int .i64 0) ∧ Below w.heap.size w w' from HOF.out)
      go_enter Try.func13, Try.ntmps13
      go_wp2_with fail
      refine (HOF.out _).mono ?_
      rintro e w1 ⟨rfl, hB1⟩
      obtain ⟨hbx, hold⟩ := past_box hB1
      have HB := Lib.hid (Below.then (Below.al (Below.refl _ _) _) hB1)
      have q0 : w1.cell? ⟨w.heap.size, 0, none⟩ = some (.int .i64 a) := by rw [cell_of_row _ _ _ _ 25 (0, 0) hbx]; rfl
      have q1 : w1.cell? ⟨w.heap.size, 1, none⟩ = some (.int .i64 b) := by rw [cell_of_row _ _ _ _ 25 (0, 0) hbx]; rfl
      have q3 : w1.cell? ⟨w.heap.size, 3, none⟩ = some (.int .i64 d) := by rw [cell_of_row _ _ _ _ 25 (0, 0) hbx]; rfl
      have q4 : w1.cell? ⟨w.heap.size, 4, none⟩ = some (.int .i64 e) := by rw [cell_of_row _ _ _ _ 25 (0, 0) hbx]; rfl
      have q5 : w1.cell? ⟨w.heap.size, 5, none⟩ = some (.int .i64 f) := by rw [cell_of_row _ _ _ _ 25 (0, 0) hbx]; rfl
      have q6 : w1.cell? ⟨w.heap.size, 6, none⟩ = some (.int .i64 g) := by rw [cell_of_row _ _ _ _ 25 (0, 0) hbx]; rfl
      have q2 : w1.cell? ⟨w.heap.size, 2, none⟩ = some (.int .i64 c) := by rw [cell_of_row _ _ _ _ 25 (0, 0) hbx]; rfl
      have q7 : w1.cell? ⟨w.heap.size, 7, none⟩ = some (.int .i64 p) := by rw [cell_of_row _ _ _ _ 25 (0, 0) hbx]; rfl
      have q8 : w1.cell? ⟨w.heap.size, 8, none⟩ = some (.int .i64 q) := by rw [cell_of_row _ _ _ _ 25 (0, 0) hbx]; rfl
      clear HOF hB1 hbx hold
      go_wp2
      go_ret
      exact ⟨ret_u64 HU.out.symm, HB.out⟩
    | true =>
      obtain ⟨t1, t2, t3, t4, t5, t6, t7, t8, t9⟩ := hgb rfl
      clear hgb
      have HOF := Lib.hid (show ∀ w, Calls Try.prog 17 #[.agg #[.int .i64 a, .int .i64 b, .int .i64 c, .int .i64 d, .int .i64 e, .int .i64 f, .int .i64 g, .int .i64 p, .int .i64 q]] w fun E w' => E = .returned (.int .i64 (4 * p)) ∧ Below w.heap.size w w' from HOF.out)
      by_cases n1 : n < 4 * p
      · have HU := Lib.hid (show entryI true c p n = addrW (c + 1 + n / 4) (2 * (n % 4)) by simp [entryI, n0, n1])
        have d1 : n.tdiv 4 = n / 4 := Int.tdiv_eq_ediv_of_nonneg n0
        have d2 : n.tmod 4 = n % 4 := Int.tmod_eq_emod_of_nonneg n0
        have d3 : 0 ≤ n / 4 := by omega
        have d4 : n / 4 ≤ 31 := by omega
        have d5 : 0 ≤ n % 4 := by omega
        have d6 : n % 4 < 4 := by omega
        go_enter Try.func13, Try.ntmps13
        go_wp2_with fail
        refine (HOF.out _).mono ?_
        rintro e w1 ⟨rfl, hB1⟩
        obtain ⟨hbx, hold⟩ := past_box hB1
        have HB := Lib.hid (Below.then (Below.al (Below.refl _ _) _) hB1)
        have q0 : w1.cell? ⟨w.heap.size, 0, none⟩ = some (.int .i64 a) := by rw [cell_of_row _ _ _ _ 25 (0, 0) hbx]; rfl
        have q1 : w1.cell? ⟨w.heap.size, 1, none⟩ = some (.int .i64 b) := by rw [cell_of_row _ _ _ _ 25 (0, 0) hbx]; rfl
        have q3 : w1.cell? ⟨w.heap.size, 3, none⟩ = some (.int .i64 d) := by rw [cell_of_row _ _ _ _ 25 (0, 0) hbx]; rfl
        have q4 : w1.cell? ⟨w.heap.size, 4, none⟩ = some (.int .i64 e) := by rw [cell_of_row _ _ _ _ 25 (0, 0) hbx]; rfl
        have q5 : w1.cell? ⟨w.heap.size, 5, none⟩ = some (.int .i64 f) := by rw [cell_of_row _ _ _ _ 25 (0, 0) hbx]; rfl
        have q6 : w1.cell? ⟨w.heap.size, 6, none⟩ = some (.int .i64 g) := by rw [cell_of_row _ _ _ _ 25 (0, 0) hbx]; rfl
        have q2 : w1.cell? ⟨w.heap.size, 2, none⟩ = some (.int .i64 c) := by rw [cell_of_row _ _ _ _ 25 (0, 0) hbx]; rfl
        have q7 : w1.cell? ⟨w.heap.size, 7, none⟩ = some (.int .i64 p) := by rw [cell_of_row _ _ _ _ 25 (0, 0) hbx]; rfl
        have q8 : w1.cell? ⟨w.heap.size, 8, none⟩ = some (.int .i64 q) := by rw [cell_of_row _ _ _ _ 25 (0, 0) hbx]; rfl
        clear HOF hB1 hbx hold
        go_wp2_with (go_at_call 32; refine (raddr_any _ _ _).mono ?_; rintro e w2 ⟨rfl, rfl⟩)
        go_ret
        exact ⟨ret_u64 (by rw [HU.out]), HB.out⟩
      · have HU := Lib.hid (show entryI true c p n = 0 by simp [entryI, n0, n1])
        go_enter Try.func13, Try.ntmps13
        go_wp2_with fail
        refine (HOF.out _).mono ?_
        rintro e w1 ⟨rfl, hB1⟩
        obtain ⟨hbx, hold⟩ := past_box hB1
        have HB := Lib.hid (Below.then (Below.al (Below.refl _ _) _) hB1)
        have q0 : w1.cell? ⟨w.heap.size, 0, none⟩ = some (.int .i64 a) := by rw [cell_of_row _ _ _ _ 25 (0, 0) hbx]; rfl
        have q1 : w1.cell? ⟨w.heap.size, 1, none⟩ = some (.int .i64 b) := by rw [cell_of_row _ _ _ _ 25 (0, 0) hbx]; rfl
        have q3 : w1.cell? ⟨w.heap.size, 3, none⟩ = some (.int .i64 d) := by rw [cell_of_row _ _ _ _ 25 (0, 0) hbx]; rfl
        have q4 : w1.cell? ⟨w.heap.size, 4, none⟩ = some (.int .i64 e) := by rw [cell_of_row _ _ _ _ 25 (0, 0) hbx]; rfl
        have q5 : w1.cell? ⟨w.heap.size, 5, none⟩ = some (.int .i64 f) := by rw [cell_of_row _ _ _ _ 25 (0, 0) hbx]; rfl
        have q6 : w1.cell? ⟨w.heap.size, 6, none⟩ = some (.int .i64 g) := by rw [cell_of_row _ _ _ _ 25 (0, 0) hbx]; rfl
        have q2 : w1.cell? ⟨w.heap.size, 2, none⟩ = some (.int .i64 c) := by rw [cell_of_row _ _ _ _ 25 (0, 0) hbx]; rfl
        have q7 : w1.cell? ⟨w.heap.size, 7, none⟩ = some (.int .i64 p) := by rw [cell_of_row _ _ _ _ 25 (0, 0) hbx]; rfl
        have q8 : w1.cell? ⟨w.heap.size, 8, none⟩ = some (.int .i64 q) := by rw [cell_of_row _ _ _ _ 25 (0, 0) hbx]; rfl
        clear HOF hB1 hbx hold
        go_wp2
        go_ret
        exact ⟨ret_u64 HU.out.symm, HB.out⟩
  · have HU := Lib.hid (show entryI G c p n = 0 by simp [entryI, n0])
    clear hgb HOF
    go_enter Try.func13, Try.ntmps13
    go_wp2
    go_ret
    exact ⟨ret_u64 HU.out.symm, Below.al (Below.refl _ _) _⟩
set_option maxRecDepth 100000 in
set_option maxHeartbeats 8000000 in
theorem rword_any (n : Int) (w : World) : Calls Try.prog 15 #[.agg #[.int .i64 a, .int .i64 b, .int .i64 c, .int .i64 d, .int .i64 e, .int .i64 f, .int .i64 g, .int .i64 p, .int .i64 q], .int .i64 n] w fun E w' => E = .returned (.int .u64 (wordI (goodH a b c d e f g p q) c p q n)) ∧ Below w.heap.size w w' := by
  obtain ⟨G, hG⟩ : ∃ G, goodH a b c d e f g p q = G := ⟨_, rfl⟩
  have hof := fun w => rwords_any a b c d e f g p q w
  have hgb := goodH_b (a := a) (b := b) (c := c) (d := d) (e := e) (f := f) (g := g) (p := p) (q := q)
  simp only [hG] at hof hgb ⊢
  have HOF := Lib.hid hof
  clear hof hG
  by_cases n0 : 0 ≤ n
  · cases G with
    | false =>
      clear hgb
      have HU := Lib.hid (show wordI false c p q n = 0 from rfl)
      have HOF := Lib.hid (show ∀ w, Calls Try.prog 19 #[.agg #[.int .i64 a, .int .i64 b, .int .i64 c, .int .i64 d, .int .i64 e, .int .i64 f, .int .i64 g, .int .i64 p, .int .i64 q]] w fun E w' => E = .returned (.int .i64 0) ∧ Below w.heap.size w w' from HOF.out)
      go_enter Try.func15, Try.ntmps15
      go_wp2_with fail
      refine (HOF.out _).mono ?_
      rintro e w1 ⟨rfl, hB1⟩
      obtain ⟨hbx, hold⟩ := past_box hB1
      have HB := Lib.hid (Below.then (Below.al (Below.refl _ _) _) hB1)
      have q0 : w1.cell? ⟨w.heap.size, 0, none⟩ = some (.int .i64 a) := by rw [cell_of_row _ _ _ _ 25 (0, 0) hbx]; rfl
      have q1 : w1.cell? ⟨w.heap.size, 1, none⟩ = some (.int .i64 b) := by rw [cell_of_row _ _ _ _ 25 (0, 0) hbx]; rfl
      have q3 : w1.cell? ⟨w.heap.size, 3, none⟩ = some (.int .i64 d) := by rw [cell_of_row _ _ _ _ 25 (0, 0) hbx]; rfl
      have q4 : w1.cell? ⟨w.heap.size, 4, none⟩ = some (.int .i64 e) := by rw [cell_of_row _ _ _ _ 25 (0, 0) hbx]; rfl
      have q5 : w1.cell? ⟨w.heap.size, 5, none⟩ = some (.int .i64 f) := by rw [cell_of_row _ _ _ _ 25 (0, 0) hbx]; rfl
      have q6 : w1.cell? ⟨w.heap.size, 6, none⟩ = some (.int .i64 g) := by rw [cell_of_row _ _ _ _ 25 (0, 0) hbx]; rfl
      have q2 : w1.cell? ⟨w.heap.size, 2, none⟩ = some (.int .i64 c) := by rw [cell_of_row _ _ _ _ 25 (0, 0) hbx]; rfl
      have q7 : w1.cell? ⟨w.heap.size, 7, none⟩ = some (.int .i64 p) := by rw [cell_of_row _ _ _ _ 25 (0, 0) hbx]; rfl
      have q8 : w1.cell? ⟨w.heap.size, 8, none⟩ = some (.int .i64 q) := by rw [cell_of_row _ _ _ _ 25 (0, 0) hbx]; rfl
      clear HOF hB1 hbx hold
      go_wp2
      go_ret
      exact ⟨ret_u64 HU.out.symm, HB.out⟩
    | true =>
      obtain ⟨t1, t2, t3, t4, t5, t6, t7, t8, t9⟩ := hgb rfl
      clear hgb
      have HOF := Lib.hid (show ∀ w, Calls Try.prog 19 #[.agg #[.int .i64 a, .int .i64 b, .int .i64 c, .int .i64 d, .int .i64 e, .int .i64 f, .int .i64 g, .int .i64 p, .int .i64 q]] w fun E w' => E = .returned (.int .i64 (8 * q)) ∧ Below w.heap.size w w' from HOF.out)
      by_cases n1 : n < 8 * q
      · have HU := Lib.hid (show wordI true c p q n = addrW (c + 1 + p + n / 8) (n % 8) by simp [wordI, n0, n1])
        have d1 : n.tdiv 8 = n / 8 := Int.tdiv_eq_ediv_of_nonneg n0
        have d2 : n.tmod 8 = n % 8 := Int.tmod_eq_emod_of_nonneg n0
        have d3 : 0 ≤ n / 8 := by omega
        have d4 : n / 8 ≤ 31 := by omega
        have d5 : 0 ≤ n % 8 := by omega
        have d6 : n % 8 < 8 := by omega
        go_enter Try.func15, Try.ntmps15
        go_wp2_with fail
        refine (HOF.out _).mono ?_
        rintro e w1 ⟨rfl, hB1⟩
        obtain ⟨hbx, hold⟩ := past_box hB1
        have HB := Lib.hid (Below.then (Below.al (Below.refl _ _) _) hB1)
        have q0 : w1.cell? ⟨w.heap.size, 0, none⟩ = some (.int .i64 a) := by rw [cell_of_row _ _ _ _ 25 (0, 0) hbx]; rfl
        have q1 : w1.cell? ⟨w.heap.size, 1, none⟩ = some (.int .i64 b) := by rw [cell_of_row _ _ _ _ 25 (0, 0) hbx]; rfl
        have q3 : w1.cell? ⟨w.heap.size, 3, none⟩ = some (.int .i64 d) := by rw [cell_of_row _ _ _ _ 25 (0, 0) hbx]; rfl
        have q4 : w1.cell? ⟨w.heap.size, 4, none⟩ = some (.int .i64 e) := by rw [cell_of_row _ _ _ _ 25 (0, 0) hbx]; rfl
        have q5 : w1.cell? ⟨w.heap.size, 5, none⟩ = some (.int .i64 f) := by rw [cell_of_row _ _ _ _ 25 (0, 0) hbx]; rfl
        have q6 : w1.cell? ⟨w.heap.size, 6, none⟩ = some (.int .i64 g) := by rw [cell_of_row _ _ _ _ 25 (0, 0) hbx]; rfl
        have q2 : w1.cell? ⟨w.heap.size, 2, none⟩ = some (.int .i64 c) := by rw [cell_of_row _ _ _ _ 25 (0, 0) hbx]; rfl
        have q7 : w1.cell? ⟨w.heap.size, 7, none⟩ = some (.int .i64 p) := by rw [cell_of_row _ _ _ _ 25 (0, 0) hbx]; rfl
        have q8 : w1.cell? ⟨w.heap.size, 8, none⟩ = some (.int .i64 q) := by rw [cell_of_row _ _ _ _ 25 (0, 0) hbx]; rfl
        clear HOF hB1 hbx hold
        go_wp2_with (first | (go_at_call 33; refine (first_any a b c d e f g p q _ (by omega) (by omega) (by omega) (by omega)).mono ?_; rintro e w9 ⟨rfl, hb9⟩) | (go_at_call 32; refine (raddr_any _ _ _).mono ?_; rintro e w2 ⟨rfl, rfl⟩))
        go_ret
        exact ⟨ret_u64 (by rw [HU.out]), Below.then HB.out hb9⟩
      · have HU := Lib.hid (show wordI true c p q n = 0 by simp [wordI, n0, n1])
        go_enter Try.func15, Try.ntmps15
        go_wp2_with fail
        refine (HOF.out _).mono ?_
        rintro e w1 ⟨rfl, hB1⟩
        obtain ⟨hbx, hold⟩ := past_box hB1
        have HB := Lib.hid (Below.then (Below.al (Below.refl _ _) _) hB1)
        have q0 : w1.cell? ⟨w.heap.size, 0, none⟩ = some (.int .i64 a) := by rw [cell_of_row _ _ _ _ 25 (0, 0) hbx]; rfl
        have q1 : w1.cell? ⟨w.heap.size, 1, none⟩ = some (.int .i64 b) := by rw [cell_of_row _ _ _ _ 25 (0, 0) hbx]; rfl
        have q3 : w1.cell? ⟨w.heap.size, 3, none⟩ = some (.int .i64 d) := by rw [cell_of_row _ _ _ _ 25 (0, 0) hbx]; rfl
        have q4 : w1.cell? ⟨w.heap.size, 4, none⟩ = some (.int .i64 e) := by rw [cell_of_row _ _ _ _ 25 (0, 0) hbx]; rfl
        have q5 : w1.cell? ⟨w.heap.size, 5, none⟩ = some (.int .i64 f) := by rw [cell_of_row _ _ _ _ 25 (0, 0) hbx]; rfl
        have q6 : w1.cell? ⟨w.heap.size, 6, none⟩ = some (.int .i64 g) := by rw [cell_of_row _ _ _ _ 25 (0, 0) hbx]; rfl
        have q2 : w1.cell? ⟨w.heap.size, 2, none⟩ = some (.int .i64 c) := by rw [cell_of_row _ _ _ _ 25 (0, 0) hbx]; rfl
        have q7 : w1.cell? ⟨w.heap.size, 7, none⟩ = some (.int .i64 p) := by rw [cell_of_row _ _ _ _ 25 (0, 0) hbx]; rfl
        have q8 : w1.cell? ⟨w.heap.size, 8, none⟩ = some (.int .i64 q) := by rw [cell_of_row _ _ _ _ 25 (0, 0) hbx]; rfl
        clear HOF hB1 hbx hold
        go_wp2
        go_ret
        exact ⟨ret_u64 HU.out.symm, HB.out⟩
  · have HU := Lib.hid (show wordI G c p q n = 0 by simp [wordI, n0])
    clear hgb HOF
    go_enter Try.func15, Try.ntmps15
    go_wp2
    go_ret
    exact ⟨ret_u64 HU.out.symm, Below.al (Below.refl _ _) _⟩
end
end Go.Proofs.Ytejeghfddnbhaaa
