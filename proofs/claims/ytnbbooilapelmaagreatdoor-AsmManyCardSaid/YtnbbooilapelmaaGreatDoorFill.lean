import Derived.Test.YtnbbooilapelmaaGreatDoorKitC
import Derived.Test.YtnbbooilapelmaaGreatDoorRows
import Derived.Maps.RangeWalk
import Derived.Maps.StringElems
import Derived.Maps.OwnSet
import Derived.Maps.Views
import Derived.WalkKit
import Derived.Lib.Hide
import Derived.Carry
namespace Go.Proofs.YtnbbooilapelmaaGreatDoor
open Go.RowKit Go.Maps
attribute [local go_sem ↓] Go.wp_at_zero Go.wp_at_succ
theorem law3 : Keyed Tryz.prog 3 := int_keyed Tryz.underlying3
/-- The table's block: its Once, locked, and its strings. -/
structure TabAt (wz w : World) (b : Nat) (S : Nat → ByteArray) : Prop where
  c0 : w.cell? ⟨b, 0, none⟩ = some (.int .u32 0)
  c1 : w.cell? ⟨b, 1, none⟩ = some (.int .i32 1)
  at_ : ∀ i, i < 23 → w.cell? ⟨b, 3 + i, none⟩ = some (.string (S i))
  fz : ∀ o, w.frozen? ⟨b, o, none⟩ = false
  bel : Below b wz w
theorem TabAt.lt {wz w : World} {b : Nat} {S : Nat → ByteArray} (h : TabAt wz w b S) : b < w.heap.size := World.block_lt_of_cell? w _ h.c0
theorem TabAt.kept {wz w w' : World} {b : Nat} {S : Nat → ByteArray} (h : TabAt wz w b S) (hb : w'.heap[b]? = w.heap[b]?) (hl : Below b w w') : TabAt wz w' b S :=
  ⟨(World.cell?_of_block (w := w) hb).trans h.c0, (World.cell?_of_block (w := w) hb).trans h.c1, fun i hi => (World.cell?_of_block (w := w) (a := ⟨b, 3 + i, none⟩) hb).trans (h.at_ i hi), fun o => (World.frozen?_of_block (w := w) (a := ⟨b, o, none⟩) hb).trans (h.fz o), h.bel.trans hl⟩
def upS (S : Nat → ByteArray) (i : Nat) (s : ByteArray) : Nat → ByteArray := fun j => if j = i then s else S j
theorem TabAt.set {wz w : World} {b : Nat} {S : Nat → ByteArray} (h : TabAt wz w b S) {i : Nat} (hi : i < 23) (s : ByteArray) : TabAt wz (w.setCell ⟨b, 3 + i, none⟩ (.string s)) b (upS S i s) := by
  have ne : ∀ o, o ≠ 3 + i → (w.setCell ⟨b, 3 + i, none⟩ (.string s)).cell? ⟨b, o, none⟩ = w.cell? ⟨b, o, none⟩ := fun o ho => World.cell?_setCell_other w ⟨b, 3 + i, none⟩ ⟨b, o, none⟩ _ (fun e => ho (by injection e with _ e; exact e.symm))
  refine ⟨(ne 0 (by omega)).trans h.c0, (ne 1 (by omega)).trans h.c1, fun j hj => ?_, fun o => by rw [World.frozen?_setCell]; exact h.fz o, h.bel.setCell (p := ⟨b, 3 + i, none⟩) (Nat.le_refl _) _⟩
  unfold upS
  by_cases e : j = i
  · subst e
    rw [if_pos rfl]
    exact World.cell?_setCell_same' _ _ _ (by rw [h.at_ j hj]; rfl)
  · rw [if_neg e]; exact (ne _ (by omega)).trans (h.at_ j hj)
def mvS (i : Nat) : ByteArray := if i = 1 then ⟨#[65, 73]⟩ else if i = 17 then ⟨#[73]⟩ else ⟨#[65]⟩
/-- A list of numbers in a block. -/
def LstAt (w : World) (g : Nat) (xs : List Nat) : Prop := ∀ (k x : Nat), xs[k]? = some x → w.cell? ⟨g, k, none⟩ = some (.int .i64 (x : Int))
theorem LstAt.kept {w w' : World} {g : Nat} {xs : List Nat} (h : LstAt w g xs) (hg : w'.heap[g]? = w.heap[g]?) : LstAt w' g xs := fun k x hx => (World.cell?_of_block (w := w) (a := ⟨g, k, none⟩) hg).trans (h k x hx)
theorem LstAt.new (w : World) (xs : List Nat) (l : List Value) (hl : l = xs.map fun (x : Nat) => Value.int .i64 (x : Int)) : LstAt (w.alloc (.cells l.toArray 3)) w.heap.size xs := by
  intro k x hx
  rw [cell_of_row _ _ k l.toArray 3 (0, 0) (heap_alloc_new w _)]
  subst hl
  simp [hx]
def s2 : ByteArray := ⟨#[65, 66, 67]⟩
def s3 : ByteArray := ⟨#[65, 66, 73]⟩
def s4 : ByteArray := ⟨#[66, 73]⟩
abbrev x2 : List Nat := [2, 3, 4, 5, 6, 7, 10, 11]
abbrev x3 : List Nat := [8, 9, 18, 19, 20]
abbrev x4 : List Nat := [12, 13, 14]
theorem take_next {xs : List Nat} {k x : Nat} (h : xs[k]? = some x) (i : Nat) : i ∈ xs.take (k + 1) ↔ i ∈ xs.take k ∨ i = x := by
  rw [List.take_add_one, h]
  simp
theorem upS_take {S S' : Nat → ByteArray} {xs : List Nat} {s : ByteArray} {k x : Nat} (h : ∀ i, S' i = if i ∈ xs.take k then s else S i) (hx : xs[k]? = some x) : ∀ i, upS S' x s i = if i ∈ xs.take (k + 1) then s else S i := fun i => by
  unfold upS
  by_cases e : i = x
  · rw [if_pos e, if_pos ((take_next hx i).2 (.inr e))]
  · rw [if_neg e, h i]
    by_cases hm : i ∈ xs.take k
    · rw [if_pos hm, if_pos ((take_next hx i).2 (.inl hm))]
    · rw [if_neg hm, if_neg (fun h => ((take_next hx i).1 h).elim hm e)]
/-- What the table holds in the end. -/
def tabS (S0 : Nat → ByteArray) (i : Nat) : ByteArray := if i ∈ x4 then s4 else if i ∈ x3 then s3 else if i ∈ x2 then s2 else if i = 1 ∨ i = 17 ∨ i = 21 then mvS i else S0 i
abbrev DF : DataW Unit := (((DataW.map []).put (.int .i64 1) (.lit (.string [65, 73]))).put (.int .i64 17) (.lit (.string [73]))).put (.int .i64 21) (.lit (.string [65]))
theorem DF_eq : DF = .map [(.int .i64 1, .lit (.string [65, 73])), (.int .i64 17, .lit (.string [73])), (.int .i64 21, .lit (.string [65]))] := by kernel_rfl
theorem hasDF {x : Int} (h : Maps.has DF (.int .i64 x) = true) : x = 1 ∨ x = 17 ∨ x = 21 := by
  rw [DF_eq] at h
  simp [Maps.has, Lit.sameKey] at h
  omega
theorem hasDF' (x : Nat) : Maps.has DF (.int .i64 (x : Int)) = decide (x = 1 ∨ x = 17 ∨ x = 21) := by
  rw [DF_eq, Bool.eq_iff_iff]
  simp [Maps.has, Lit.sameKey]
  omega
theorem atDF {x : Nat} (hx : x = 1 ∨ x = 17 ∨ x = 21) {c : ByteArray} (h : ∀ zd, DF.atKey (.int .i64 (x : Int)) zd = .lit (.string c.data.toList)) : c = mvS x := by
  have h := h (.lit (.int .u64 0))
  rw [DF_eq] at h
  have key : ∀ l : List UInt8, c.data.toList = l → c = ⟨l.toArray⟩ := fun l e => by
    obtain ⟨d⟩ := c
    simp only at e
    rw [← e]
  rcases hx with rfl | rfl | rfl <;> simp [DataW.atKey, Lit.sameKey] at h <;> exact key _ h.symm
set_option maxHeartbeats 4000000 in
theorem fill_any (b : Nat) (w : World) (S0 : Nat → ByteArray) (hT : TabAt w w b S0) :
    Calls Tryz.prog 48 #[.pointer (some ⟨b, 0, none⟩)] w fun e w' => e = .returned (.tuple #[]) ∧ TabAt w w' b (tabS S0) := by
  have hb := hT.lt
  have hown0 : (w.alloc (.map #[] 0)).ownsMap Tryz.prog 3 (plainElem (H := Unit) Tryz.prog 9) w.heap.size 0 (.map []) := World.ownsMap_made w _ _ _
  obtain ⟨w1, r1, m1, g1⟩ := hown0.update (t := 122) law3 Tryz.underlying122 (by unfold maxLen; omega) (key := .int .i64 1) (val := .string ⟨#[65, 73]⟩) (keyOf_int_mk Tryz.underlying3 rfl) (plainElem_string Tryz.underlying9 (by decide))
  obtain ⟨w2, r2, m2, g2⟩ := m1.update (t := 122) law3 Tryz.underlying122 (by unfold maxLen; omega) (key := .int .i64 17) (val := .string ⟨#[73]⟩) (keyOf_int_mk Tryz.underlying3 rfl) (plainElem_string Tryz.underlying9 (by decide))
  obtain ⟨w3, r3, m3, g3⟩ := m2.update (t := 122) law3 Tryz.underlying122 (by unfold maxLen; omega) (key := .int .i64 21) (val := .string ⟨#[65]⟩) (keyOf_int_mk Tryz.underlying3 rfl) (plainElem_string Tryz.underlying9 (by decide))
  obtain ⟨w4, r4, hrg0, g4, hs4⟩ := m3.range (t := 122) law3 Tryz.underlying122
  have hrg : w4.ranges Tryz.prog 3 (plainElem (H := Unit) Tryz.prog 9) w.heap.size w3.heap.size (0 + 1 + 1 + 1) DF (Maps.has DF) (Maps.size DF) := hrg0
  have hT4 : TabAt w w4 b S0 := by
    have b0 : Below b w (w.alloc (.map #[] 0)) := (Below.refl _ _).alloc (by omega) _
    have bb : Below b w w4 := ((((b0.grown g1 (by simp; omega) (fun k e => by cases e; omega)).grown g2 (by have := g1.size; simp at this; omega) (fun k e => by cases e; omega)).grown g3 (by have := g1.size; have := g2.size; simp at *; omega) (fun k e => by cases e; omega)).grown g4 (by have := g1.size; have := g2.size; have := g3.size; simp at *; omega) (fun k e => by cases e))
    refine hT.kept ?_ bb
    have h0 : (w.alloc (.map #[] 0)).heap[b]? = w.heap[b]? := Below.heap_alloc _ _ _ hb
    have s0 : b < (w.alloc (.map #[] 0)).heap.size := by simp; omega
    have s1 := Nat.lt_of_lt_of_le s0 g1.size
    have s2 := Nat.lt_of_lt_of_le s1 g2.size
    have s3 := Nat.lt_of_lt_of_le s2 g3.size
    rw [g4.block b s3 (by simp), g3.block b s2 (by simp; omega), g2.block b s1 (by simp; omega), g1.block b s0 (by simp; omega), h0]
  have hmk := @run_makeMap Tryz.prog
  have hb3 : b < w3.heap.size := by
    have s0 : b < (w.alloc (.map #[] 0)).heap.size := by simp; omega
    exact Nat.lt_of_lt_of_le (Nat.lt_of_lt_of_le (Nat.lt_of_lt_of_le s0 g1.size) g2.size) g3.size
  clear hown0 m1 m2 m3 g1 g2 g3 g4 hs4 hrg0 hT
  have HRG := Lib.hid hrg; have HT := Lib.hid hT4
  clear hrg hT4
  go_enter Tryz.func48, Tryz.ntmps48
  go_wp2_with fail
  go_loopw [2, 3] (fun _ _ wr => ∃ (left : Lit → Bool) (cnt : Nat) (S : Nat → ByteArray), wr.ranges Tryz.prog 3 (plainElem (H := Unit) Tryz.prog 9) w.heap.size w3.heap.size (0 + 1 + 1 + 1) DF left cnt ∧ (∀ kl, left kl = true → Maps.has DF kl = true) ∧ TabAt w wr b S ∧ ∀ i : Nat, S i = if (i = 1 ∨ i = 17 ∨ i = 21) ∧ left (.int .i64 (i : Int)) = false then mvS i else S0 i) (fun _ _ wr => wr.rangeLeft w.heap.size w3.heap.size)
  case atStart =>
    refine ⟨_, _, S0, HRG.out, fun _ h => h, HT.out, fun i => ?_⟩
    rw [hasDF', if_neg]
    rintro ⟨h1, h2⟩
    simp only [decide_eq_false_iff_not] at h2
    exact h2 h1
  case round =>
    obtain ⟨left, cnt, S, hrg, hlh, hT, hS⟩ := hrel
    have HRG2 := Lib.hid hrg; have HT2 := Lib.hid hT; have HS := Lib.hid hS; have HLH := Lib.hid hlh
    clear hrg hT hS hlh
    go_wp2_with (first | (at_next; refine wpList_next_ranges_is (H := Unit) _ rfl _ rfl 3 9 .i64 law3 Tryz.underlying3 Tryz.underlying9 w.heap.size w3.heap.size _ DF left cnt rfl HRG2.out ?_ ?_))
    · intro hc0 hl0
      have hS2 : ∀ i : Nat, S i = if i = 1 ∨ i = 17 ∨ i = 21 then mvS i else S0 i := fun i => by
        rw [HS.out i]
        have := hl0 (.int .i64 (i : Int))
        by_cases h : i = 1 ∨ i = 17 ∨ i = 21
        · rw [if_pos ⟨h, this⟩, if_pos h]
        · rw [if_neg (fun e => h e.1), if_neg h]
      have HS2 := Lib.hid hS2
      clear hl0 hS2
      go_wp2_with fail
      -- loop 2
      obtain ⟨g2, hg2⟩ : ∃ g, wr.heap.size = g := ⟨_, rfl⟩
      have hbg2 : b < g2 := by have := HT2.out.lt; omega
      obtain ⟨v2, hv2⟩ : ∃ v, wr.alloc (.cells (#[.int .i64 2, .int .i64 3, .int .i64 4, .int .i64 5, .int .i64 6, .int .i64 7, .int .i64 10, .int .i64 11]) 3) = v := ⟨_, rfl⟩
      have HTa2 := Lib.hid (show TabAt w v2 b S from by rw [← hv2]; exact HT2.out.kept (Below.heap_alloc _ _ _ HT2.out.lt) ((Below.refl _ _).alloc (Nat.le_of_lt HT2.out.lt) _))
      have HLa2 := Lib.hid (show LstAt v2 g2 x2 from by rw [← hv2, ← hg2]; exact LstAt.new _ _ _ rfl)
      rw [hg2, hv2]
      clear hg2 hv2
      go_loopw [5, 26] (fun _ z w' => ∃ (k : Nat) (S' : Nat → ByteArray), k ≤ 8 ∧ z = .int .i64 (k : Int) ∧ TabAt w w' b S' ∧ LstAt w' g2 x2 ∧ ∀ i, S' i = if i ∈ x2.take k then s2 else S i) (fun _ z _ => 8 - (intOf z).toNat)
      case atStart => exact ⟨0, S, by omega, rfl, HTa2.out, HLa2.out, fun i => by simp⟩
      case round =>
      obtain ⟨k, S2, hk, rfl, hT, hL, hS⟩ := hrel
      have HTb2 := Lib.hid hT; have HLb2 := Lib.hid hL; have HSb2 := Lib.hid hS
      clear hT hL hS
      have hk0 : (0 : Int) ≤ (k : Int) := by omega
      by_cases hlt : k < 8
      · obtain ⟨x, hx⟩ : ∃ x, x2[k]? = some x := ⟨_, List.getElem?_eq_getElem (by simpa using hlt)⟩
        have hx23 : x < 23 := (by decide : ∀ x ∈ x2, x < 23) x (List.mem_of_getElem? hx)
        have hcx := HLb2.out k x hx
        have c26 := HTb2.out.at_ x hx23
        have f8 := HTb2.out.fz (3 + x)
        have HTc := Lib.hid (HTb2.out.set hx23 s2)
        have HLc := Lib.hid (show LstAt (wr.setCell ⟨b, 3 + x, none⟩ (.string s2)) g2 x2 from HLb2.out.kept (Below.heap_setCell _ _ _ _ (by simp; omega)))
        have HSc := Lib.hid (upS_take HSb2.out hx)
        have hx0 : (0 : Int) ≤ (x : Int) := by omega
        have hx1 : (x : Int) < 23 := by omega
        have hk1 : (k : Int) < 8 := by omega
        have hs : (⟨#[65, 66, 67]⟩ : ByteArray) = s2 := rfl
        clear hx hx23
        go_wp2
        go_roundw
        case rel => exact ⟨k + 1, _, by omega, by simp [go_sem], HTc.out, HLc.out, HSc.out⟩
        case measure => simp [intOf]; omega
      · obtain rfl : k = 8 := by omega
        have HSd2 := Lib.hid (show ∀ i, S2 i = if i ∈ x2 then s2 else S i from HSb2.out)
        go_wp2_with fail
        -- loop 3
        obtain ⟨g3, hg3⟩ : ∃ g, wr.heap.size = g := ⟨_, rfl⟩
        have hbg3 : b < g3 := by have := HTb2.out.lt; omega
        obtain ⟨v3, hv3⟩ : ∃ v, wr.alloc (.cells (#[.int .i64 8, .int .i64 9, .int .i64 18, .int .i64 19, .int .i64 20]) 3) = v := ⟨_, rfl⟩
        have HTa3 := Lib.hid (show TabAt w v3 b S2 from by rw [← hv3]; exact HTb2.out.kept (Below.heap_alloc _ _ _ HTb2.out.lt) ((Below.refl _ _).alloc (Nat.le_of_lt HTb2.out.lt) _))
        have HLa3 := Lib.hid (show LstAt v3 g3 x3 from by rw [← hv3, ← hg3]; exact LstAt.new _ _ _ rfl)
        rw [hg3, hv3]
        clear hg3 hv3
        go_loopw [7, 38] (fun _ z w' => ∃ (k : Nat) (S' : Nat → ByteArray), k ≤ 5 ∧ z = .int .i64 (k : Int) ∧ TabAt w w' b S' ∧ LstAt w' g3 x3 ∧ ∀ i, S' i = if i ∈ x3.take k then s3 else S2 i) (fun _ z _ => 5 - (intOf z).toNat)
        case atStart => exact ⟨0, S2, by omega, rfl, HTa3.out, HLa3.out, fun i => by simp⟩
        case round =>
        obtain ⟨k, S3, hk, rfl, hT, hL, hS⟩ := hrel
        have HTb3 := Lib.hid hT; have HLb3 := Lib.hid hL; have HSb3 := Lib.hid hS
        clear hT hL hS
        have hk0 : (0 : Int) ≤ (k : Int) := by omega
        by_cases hlt : k < 5
        · obtain ⟨x, hx⟩ : ∃ x, x3[k]? = some x := ⟨_, List.getElem?_eq_getElem (by simpa using hlt)⟩
          have hx23 : x < 23 := (by decide : ∀ x ∈ x3, x < 23) x (List.mem_of_getElem? hx)
          have hcx := HLb3.out k x hx
          have c26 := HTb3.out.at_ x hx23
          have f8 := HTb3.out.fz (3 + x)
          have HTc := Lib.hid (HTb3.out.set hx23 s3)
          have HLc := Lib.hid (show LstAt (wr.setCell ⟨b, 3 + x, none⟩ (.string s3)) g3 x3 from HLb3.out.kept (Below.heap_setCell _ _ _ _ (by simp; omega)))
          have HSc := Lib.hid (upS_take HSb3.out hx)
          have hx0 : (0 : Int) ≤ (x : Int) := by omega
          have hx1 : (x : Int) < 23 := by omega
          have hk1 : (k : Int) < 5 := by omega
          have hs : (⟨#[65, 66, 73]⟩ : ByteArray) = s3 := rfl
          clear hx hx23
          go_wp2
          go_roundw
          case rel => exact ⟨k + 1, _, by omega, by simp [go_sem], HTc.out, HLc.out, HSc.out⟩
          case measure => simp [intOf]; omega
        · obtain rfl : k = 5 := by omega
          have HSd3 := Lib.hid (show ∀ i, S3 i = if i ∈ x3 then s3 else S2 i from HSb3.out)
          go_wp2_with fail
          -- loop 4
          obtain ⟨g4, hg4⟩ : ∃ g, wr.heap.size = g := ⟨_, rfl⟩
          have hbg4 : b < g4 := by have := HTb3.out.lt; omega
          obtain ⟨v4, hv4⟩ : ∃ v, wr.alloc (.cells (#[.int .i64 12, .int .i64 13, .int .i64 14]) 3) = v := ⟨_, rfl⟩
          have HTa4 := Lib.hid (show TabAt w v4 b S3 from by rw [← hv4]; exact HTb3.out.kept (Below.heap_alloc _ _ _ HTb3.out.lt) ((Below.refl _ _).alloc (Nat.le_of_lt HTb3.out.lt) _))
          have HLa4 := Lib.hid (show LstAt v4 g4 x4 from by rw [← hv4, ← hg4]; exact LstAt.new _ _ _ rfl)
          rw [hg4, hv4]
          clear hg4 hv4
          go_loopw [9, 50] (fun _ z w' => ∃ (k : Nat) (S' : Nat → ByteArray), k ≤ 3 ∧ z = .int .i64 (k : Int) ∧ TabAt w w' b S' ∧ LstAt w' g4 x4 ∧ ∀ i, S' i = if i ∈ x4.take k then s4 else S3 i) (fun _ z _ => 3 - (intOf z).toNat)
          case atStart => exact ⟨0, S3, by omega, rfl, HTa4.out, HLa4.out, fun i => by simp⟩
          case round =>
          obtain ⟨k, S4, hk, rfl, hT, hL, hS⟩ := hrel
          have HTb4 := Lib.hid hT; have HLb4 := Lib.hid hL; have HSb4 := Lib.hid hS
          clear hT hL hS
          have hk0 : (0 : Int) ≤ (k : Int) := by omega
          by_cases hlt : k < 3
          · obtain ⟨x, hx⟩ : ∃ x, x4[k]? = some x := ⟨_, List.getElem?_eq_getElem (by simpa using hlt)⟩
            have hx23 : x < 23 := (by decide : ∀ x ∈ x4, x < 23) x (List.mem_of_getElem? hx)
            have hcx := HLb4.out k x hx
            have c26 := HTb4.out.at_ x hx23
            have f8 := HTb4.out.fz (3 + x)
            have HTc := Lib.hid (HTb4.out.set hx23 s4)
            have HLc := Lib.hid (show LstAt (wr.setCell ⟨b, 3 + x, none⟩ (.string s4)) g4 x4 from HLb4.out.kept (Below.heap_setCell _ _ _ _ (by simp; omega)))
            have HSc := Lib.hid (upS_take HSb4.out hx)
            have hx0 : (0 : Int) ≤ (x : Int) := by omega
            have hx1 : (x : Int) < 23 := by omega
            have hk1 : (k : Int) < 3 := by omega
            have hs : (⟨#[66, 73]⟩ : ByteArray) = s4 := rfl
            clear hx hx23
            go_wp2
            go_roundw
            case rel => exact ⟨k + 1, _, by omega, by simp [go_sem], HTc.out, HLc.out, HSc.out⟩
            case measure => simp [intOf]; omega
          · obtain rfl : k = 3 := by omega
            have HSd4 := Lib.hid (show ∀ i, S4 i = if i ∈ x4 then s4 else S3 i from HSb4.out)
            go_wp2_with fail
            have hfin : S4 = tabS S0 := funext fun i => by rw [HSd4.out i, HSd3.out i, HSd2.out i, HS2.out i]; rfl
            have hT := HTb4.out
            rw [hfin] at hT
            have HT4 := Lib.hid hT
            clear hT
            go_end0
            exact ⟨rfl, HT4.out⟩
    · intro x c w8 cnt1 hwx hwc hlx hat hrg1 hltc hg1 hs1 hen
      have hx := hasDF (HLH.out _ hlx)
      obtain ⟨k, rfl⟩ : ∃ k : Nat, x = (k : Int) := ⟨x.toNat, by omega⟩
      have hk : k = 1 ∨ k = 17 ∨ k = 21 := by omega
      have hc := atDF hk hat
      have hT8 : TabAt w w8 b S := HT2.out.kept (hg1.block b HT2.out.lt (by simp; omega)) ((Below.refl _ _).grown hg1 (Nat.le_of_lt HT2.out.lt) (fun k e => by cases e; omega))
      have hk23 : k < 23 := by omega
      have c26 := hT8.at_ k hk23
      have f8 := hT8.fz (3 + k)
      have hT9 := hT8.set hk23 c
      have hrg9 : (w8.setCell ⟨b, 3 + k, none⟩ (.string c)).ranges Tryz.prog 3 (plainElem (H := Unit) Tryz.prog 9) w.heap.size w3.heap.size (0 + 1 + 1 + 1) DF (fun z => left z && !z.sameKey (.int .i64 (k : Int))) cnt1 := by
        have hOg : Only (fun k => k = b) w8 (w8.setCell ⟨b, 3 + k, none⟩ (.string c)) := (Only.refl _ _).set _ _ (Or.inl rfl)
        exact hrg1.kept (row := some b) ⟨hOg.os, hOg.tape, hOg.output, hOg.size, fun k hk hne => hOg.block k hk (fun e => hne (by rw [e]))⟩ (fun e => by have := Option.some.inj e; omega) (fun e => by have := Option.some.inj e; omega)
      have hS9 : ∀ i : Nat, upS S k c i = if (i = 1 ∨ i = 17 ∨ i = 21) ∧ (left (.int .i64 (i : Int)) && !(Lit.int .i64 (i : Int)).sameKey (.int .i64 (k : Int))) = false then mvS i else S0 i := fun i => by
        unfold upS
        by_cases e : i = k
        · subst e
          rw [if_pos rfl, if_pos ⟨hk, by simp [Lit.sameKey]⟩, hc]
        · rw [if_neg e, HS.out i]
          have : (Lit.int .i64 (i : Int)).sameKey (.int .i64 (k : Int)) = false := by simp [Lit.sameKey]; omega
          rw [this]
          simp
      have HT9 := Lib.hid hT9; have HR9 := Lib.hid hrg9; have HS9 := Lib.hid hS9; have HLT := Lib.hid hltc
      have hk0 : (0 : Int) ≤ (k : Int) := by omega
      have hk1 : (k : Int) < 23 := by omega
      clear hT9 hrg9 hS9 hltc hT8 hrg1 hg1 hs1 hlx hat hx hwx hwc hc hk
      go_wp2
      go_roundw
      case rel => exact ⟨_, cnt1, _, HR9.out, fun kl h => HLH.out kl (by simp at h; exact h.1), HT9.out, HS9.out⟩
      case measure => rw [HR9.out.left_eq, HRG2.out.left_eq]; exact HLT.out
end Go.Proofs.YtnbbooilapelmaaGreatDoor
