/-
  Small lemmas of this session over any program: a line of eight words as a function, equality of two such arrays, cells that stay where memory only grows.
-/
import Derived.WalkKit
import Derived.WalkSpells
import Derived.WalkLawsBesides
import Derived.Deep.RegionHeld3
import Derived.Deep.DrawnRows
import Derived.Lib.Hide
namespace Go.Proofs.YtnbbooilapelmaaGreatDoor
open Go.RowKit

/-- The cells of a line whose words are f 0 .. f 7. -/
@[go_sem] def lnV (f : Nat → Int) : Array Value := #[.int .u64 (f 0), .int .u64 (f 1), .int .u64 (f 2), .int .u64 (f 3), .int .u64 (f 4), .int .u64 (f 5), .int .u64 (f 6), .int .u64 (f 7)]
def updL (f : Nat → Int) (n : Nat) (v : Int) : Nat → Int := fun i => if i = n then v else f i
theorem lnV_get (f : Nat → Int) (n : Nat) (h : n < 8) : (lnV f)[n]? = some (.int .u64 (f n)) := by
  match n, h with
  | 0, _ | 1, _ | 2, _ | 3, _ | 4, _ | 5, _ | 6, _ | 7, _ => rfl
theorem lnV_set (f : Nat → Int) (n : Nat) (v : Int) (h : n < 8) : (lnV f).setIfInBounds n (.int .u64 v) = lnV (updL f n v) := by
  match n, h with
  | 0, _ | 1, _ | 2, _ | 3, _ | 4, _ | 5, _ | 6, _ | 7, _ => rfl

/-- Are two lines alike? -/
def eqL (f g : Nat → Int) : Bool := f 0 == g 0 && (f 1 == g 1 && (f 2 == g 2 && (f 3 == g 3 && (f 4 == g 4 && (f 5 == g 5 && (f 6 == g 6 && f 7 == g 7))))))
theorem eqL_refl (f : Nat → Int) : eqL f f = true := by simp [eqL]

section
variable {P : Program}
theorem part_of (w : World) (t : TypeId) (xs : Array Value) (i : Nat) (k : IntKind) (hu : P.underlying t = some (.int k)) (h : i < xs.size) : (part t xs i).run P w = .ok (xs.getD i undef) w := by
  simp [part, isAgg, run_underlying hu, h]

/-- '==' of two arrays of eight words. -/
@[go_sem] theorem run_equalIn_line (w : World) (d : Nat) (t : TypeId) (e : TypeId) (a0 a1 a2 a3 a4 a5 a6 a7 b0 b1 b2 b3 b4 b5 b6 b7 : Int) (ht : P.underlying t = some (.array 8 e))
    (he : P.underlying e = some (.int .u64)) (hs : (P.info? e).map (·.size) = some 1) :
    (Op.equalIn (d + 2) t (.agg #[.int .u64 a0, .int .u64 a1, .int .u64 a2, .int .u64 a3, .int .u64 a4, .int .u64 a5, .int .u64 a6, .int .u64 a7])
      (.agg #[.int .u64 b0, .int .u64 b1, .int .u64 b2, .int .u64 b3, .int .u64 b4, .int .u64 b5, .int .u64 b6, .int .u64 b7])).run P w =
      .ok (a0 == b0 && (a1 == b1 && (a2 == b2 && (a3 == b3 && (a4 == b4 && (a5 == b5 && (a6 == b6 && a7 == b7))))))) w := by
  have hr : List.range' 0 8 1 = [0, 1, 2, 3, 4, 5, 6, 7] := rfl
  cases hq : P.info? e with
  | none => simp [hq] at hs
  | some i =>
    have hi : i.size = 1 := by simpa [hq] using hs
    have hz : (sizeOf e).run P w = .ok 1 w := by simp [sizeOf, typeInfo, hq, hi]
    have hp : ∀ (xs : Array Value) (j : Nat), j < xs.size → (part e xs j).run P w = .ok (xs.getD j undef) w := fun xs j h => part_of w e xs j .u64 he h
    have hk : ∀ (a b : Int), (Op.equalIn (d + 1) e (.int .u64 a) (.int .u64 b)).run P w = .ok (a == b) w := fun a b => run_equalIn_int w d e .u64 .u64 a b he
    rw [Op.equalIn]
    simp only [Sem.run_bind, run_underlying ht, Result.andThen_ok, hz]
    simp only [Std.Legacy.Range.forIn_eq_forIn_range', Std.Legacy.Range.size, hr]
    simp [hp, hk]
    by_cases h0 : a0 = b0
    · by_cases h1 : a1 = b1
      · by_cases h2 : a2 = b2
        · by_cases h3 : a3 = b3
          · by_cases h4 : a4 = b4
            · by_cases h5 : a5 = b5
              · by_cases h6 : a6 = b6
                · by_cases h7 : a7 = b7 <;> simp [h0, h1, h2, h3, h4, h5, h6, h7]
                · simp [h0, h1, h2, h3, h4, h5, h6]
              · simp [h0, h1, h2, h3, h4, h5]
            · simp [h0, h1, h2, h3, h4]
          · simp [h0, h1, h2, h3]
        · simp [h0, h1, h2]
      · simp [h0, h1]
    · simp [h0]

end

/-- What holds of a world that has only grown since W0: 'Below', and as a rewrite rule for the walk. -/
def Stay (B : Nat) (W0 w' : World) : Prop := Below B W0 w' ∧ (∀ b o, b < B → w'.cell? ⟨b, o, none⟩ = W0.cell? ⟨b, o, none⟩)
theorem stay_of {B : Nat} {W0 w' : World} (h : Below B W0 w') : Below B W0 w' ∧ (∀ b o, b < B → w'.cell? ⟨b, o, none⟩ = W0.cell? ⟨b, o, none⟩) :=
  ⟨h, fun b o hb => h.cell (p := ⟨b, o, none⟩) hb⟩
theorem stay_drew {B : Nat} {W0 : World} : Below B W0 W0.drew ∧ (∀ b o, b < B → W0.drew.cell? ⟨b, o, none⟩ = W0.cell? ⟨b, o, none⟩) := stay_of ((Below.refl _ _).drew)
theorem stay_step {B : Nat} {W0 w1 w2 : World} (hB : B ≤ W0.heap.size) (h : Below B W0 w1 ∧ (∀ b o, b < B → w1.cell? ⟨b, o, none⟩ = W0.cell? ⟨b, o, none⟩)) (hb : Below w1.heap.size w1 w2) :
    Below B W0 w2 ∧ (∀ b o, b < B → w2.cell? ⟨b, o, none⟩ = W0.cell? ⟨b, o, none⟩) :=
  stay_of (h.1.trans (hb.mono (Nat.le_trans hB h.1.size)))
theorem Below.go {B : Nat} {W0 w1 w2 : World} (h : Below B W0 w1) (hB : B ≤ w1.heap.size) (h2 : Below w1.heap.size w1 w2) : Below B W0 w2 := h.trans (h2.mono hB)
/-- The end of a walk over blocks of its own: the worlds between were W0. -/
theorem stay_end {B : Nat} {w W0 w' : World} (h0 : Below w.heap.size w W0) (hB : w.heap.size ≤ B) (h : Below B W0 w' ∧ (∀ b o, b < B → w'.cell? ⟨b, o, none⟩ = W0.cell? ⟨b, o, none⟩)) : Below w.heap.size w w' := h0.trans (h.1.mono hB)

theorem Below.al {w w1 : World} (h : Below w.heap.size w w1) (o : Obj) : Below w.heap.size w (w1.alloc o) := h.alloc h.size o
theorem Below.then {w w1 w2 : World} (h : Below w.heap.size w w1) (h2 : Below w1.heap.size w1 w2) : Below w.heap.size w w2 := h.trans (h2.mono h.size)

end Go.Proofs.YtnbbooilapelmaaGreatDoor
