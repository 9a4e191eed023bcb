/-
  A slice argument read as a list, over any program.
-/
import Derived.Test.YtnbbooilapelmaaGreatDoorKitB
import Derived.Test.YtnbbooilapelmaaGreatDoorKitC
namespace Go.Proofs.YtnbbooilapelmaaGreatDoor
open Go.RowKit

/-- As many things as there are places, one behind the other. -/
theorem choose_list {α : Type} {R : Nat → α → Prop} : ∀ n : Nat, (∀ i, i < n → ∃ a, R i a) → ∃ l : List α, l.length = n ∧ ∀ i a, l[i]? = some a → R i a
  | 0, _ => ⟨[], rfl, fun i a h => by simp at h⟩
  | n + 1, h => by
    obtain ⟨l, hl, hr⟩ := choose_list n (fun i hi => h i (by omega))
    obtain ⟨a, ha⟩ := h n (by omega)
    refine ⟨l ++ [a], by simp [hl], fun i b hb => ?_⟩
    rcases Nat.lt_or_ge i n with hi | hi
    · rw [List.getElem?_append_left (by omega)] at hb
      exact hr i b hb
    · rw [List.getElem?_append_right (by omega)] at hb
      have : i - l.length = 0 := by
        rcases Nat.eq_zero_or_pos (i - l.length) with h0 | h0
        · exact h0
        · rw [List.getElem?_eq_none (by simp; omega)] at hb; cases hb
      rw [this] at hb
      simp at hb
      subst hb
      obtain rfl : i = n := by omega
      exact ha

/-- The cells of a list's elements, one behind the other. -/
def encL {α : Type} (enc : α → List Value) : List α → List Value
  | [] => []
  | a :: r => enc a ++ encL enc r
theorem encL_len {α : Type} {enc : α → List Value} {sz : Nat} (h : ∀ a, (enc a).length = sz) : ∀ l : List α, (encL enc l).length = l.length * sz
  | [] => by simp [encL]
  | a :: r => by rw [encL, List.length_append, h, encL_len h r, List.length_cons, Nat.succ_mul]; omega
theorem encL_get {α : Type} {enc : α → List Value} {sz : Nat} (h : ∀ a, (enc a).length = sz) : ∀ (l : List α) (i : Nat) (a : α), l[i]? = some a → ∀ j, j < sz → (encL enc l)[i * sz + j]? = (enc a)[j]?
  | x :: r, 0, a, ha, j, hj => by
    simp at ha; subst ha
    rw [encL, List.getElem?_append_left (by rw [h]; omega)]
    simp
  | x :: r, i + 1, a, ha, j, hj => by
    have hs : (i + 1) * sz = i * sz + sz := Nat.succ_mul i sz
    rw [encL, List.getElem?_append_right (by rw [h]; omega)]
    have := encL_get h r i a (by simpa using ha) j hj
    rw [← this]
    congr 1
    rw [h]
    omega
theorem encL_at {α : Type} {enc : α → List Value} {sz : Nat} (h : ∀ a, (enc a).length = sz) (hs : 0 < sz) : ∀ (l : List α) (t : Nat) (u : Value), (encL enc l)[t]? = some u → ∃ a, l[t / sz]? = some a ∧ (enc a)[t % sz]? = some u
  | [], t, u, ht => by simp [encL] at ht
  | x :: r, t, u, ht => by
    rcases Nat.lt_or_ge t sz with h1 | h1
    · rw [encL, List.getElem?_append_left (by rw [h]; omega)] at ht
      exact ⟨x, by rw [Nat.div_eq_of_lt h1]; rfl, by rw [Nat.mod_eq_of_lt h1]; exact ht⟩
    · rw [encL, List.getElem?_append_right (by rw [h]; omega), h] at ht
      obtain ⟨a, ha, hu⟩ := encL_at h hs r (t - sz) u ht
      have e1 : t / sz = (t - sz) / sz + 1 := by
        rw [← Nat.add_div_right _ hs]
        congr 1
        omega
      have e2 : t % sz = (t - sz) % sz := by
        conv => lhs; rw [show t = (t - sz) + sz by omega]
        exact Nat.add_mod_right _ _
      exact ⟨a, by rw [e1]; exact ha, by rw [e2]; exact hu⟩

section
variable {H : Type} {enc : TypeId × Value → H} {P : Program} {base : Nat} {W : World}
/-- What a slice's reading says, as a list. -/
theorem list_of {e : TypeId} {v : Value} {sz : Nat} {ts : List TypeId} {α : Type} {en : α → List Value} {ok : α → Prop} (hsz : P.cellsOf e = sz) (hs : 0 < sz) (hen : ∀ a, (en a).length = sz)
    (hop : ∀ cs, All2 (Rd enc P W 0 (fun _ => true) true) ts cs → ∃ a, cs = en a ∧ ok a)
    (hd : v = .slice none 0 0 ∨ ∃ (a : Addr) (len cap : Nat), v = .slice (some a) len cap ∧ len ≤ cap ∧ cap ≤ maxLen ∧
      ∀ i, i < cap → ∃ cs : List Value, cs.length = P.cellsOf e ∧ All2 (Rd enc P W 0 (fun _ => true) true) ts cs ∧ ∀ j, j < P.cellsOf e → W.cell? ((a.add (i * P.cellsOf e)).add j) = cs[j]?) :
    ∃ l : List α, (∀ a ∈ l, ok a) ∧ Rds W sz v l.length (encL en l) := by
  rcases hd with rfl | ⟨a, len, cap, rfl, h1, h2, hc⟩
  · exact ⟨[], by simp, Rds.nil _ _⟩
  · subst hsz
    have hR : ∀ i, i < len → ∃ x : α, ok x ∧ ∀ j, j < P.cellsOf e → W.cell? ((a.add (i * P.cellsOf e)).add j) = (en x)[j]? := fun i hi => by
      obtain ⟨cs, _, c2, c3⟩ := hc i (by omega)
      obtain ⟨x, rfl, hx⟩ := hop cs c2
      exact ⟨x, hx, c3⟩
    obtain ⟨l, hl, hr⟩ := choose_list len hR
    refine ⟨l, fun x hx => ?_, ?_⟩
    · obtain ⟨i, hi, rfl⟩ := List.getElem_of_mem hx
      exact (hr i _ (List.getElem?_eq_getElem hi)).1
    · subst hl
      refine ⟨encL_len hen l, some a, cap, rfl, h1, h2, fun h => (by cases h), fun h0 => ?_⟩
      have hadd : ∀ (x : Addr) (n : Nat), x.spot = none → x.add n = ⟨x.block, x.off + n, none⟩ := fun x n hx => by
        unfold Addr.add
        split
        · rename_i h; subst h; cases x; simp_all
        · rfl
      have hspot : a.spot = none := by
        obtain ⟨x, hx⟩ : ∃ x, l[0]? = some x := ⟨_, List.getElem?_eq_getElem h0⟩
        have := (hr 0 x hx).2 0 hs
        simp only [Nat.zero_mul] at this
        have e0 : (a.add 0).add 0 = a := rfl
        rw [e0, List.getElem?_eq_getElem (by rw [hen]; exact hs)] at this
        unfold World.cell? at this
        split at this
        · split at this
          · cases this
          · rename_i hh; cases ha : a.spot with | none => rfl | some _ => simp [ha] at hh
        · cases this
      obtain ⟨b, o, s⟩ := a
      simp at hspot
      subst hspot
      have hcell : ∀ j u, (encL en l)[j]? = some u → W.cell? ⟨b, o + j, none⟩ = some u := fun j u hj => by
        obtain ⟨x, hx, hxu⟩ := encL_at hen hs l j u hj
        have := (hr _ x hx).2 (j % P.cellsOf e) (Nat.mod_lt _ hs)
        rw [hadd ⟨b, o, none⟩ _ rfl, hadd _ _ rfl] at this
        have e1 : j / P.cellsOf e * P.cellsOf e + j % P.cellsOf e = j := by rw [Nat.mul_comm]; exact Nat.div_add_mod _ _
        rw [show o + j = o + j / P.cellsOf e * P.cellsOf e + j % P.cellsOf e by omega]
        rw [this]; exact hxu
      refine ⟨b, o, rfl, ?_, hcell⟩
      have hlen : 0 < (encL en l).length := by rw [encL_len hen l]; exact Nat.mul_pos h0 hs
      exact World.block_lt_of_cell? W _ (hcell 0 _ (List.getElem?_eq_getElem hlen))
/-- A slice argument, each of whose elements reads as a thing. -/
theorem Arg.list {t e : TypeId} {v : Value} {m sz : Nat} {ts : List TypeId} {α : Type} {en : α → List Value} {ok : α → Prop} (hu : P.underlying t = some (.slice e)) (hf : flat P m e = some ts) (hsz : P.cellsOf e = sz) (hs : 0 < sz) (hen : ∀ a, (en a).length = sz)
    (hop : ∀ cs, All2 (Rd enc P W 0 (fun _ => true) true) ts cs → ∃ a, cs = en a ∧ ok a) (h : Arg enc P W base t v) :
    ∃ l : List α, (∀ a ∈ l, ok a) ∧ Rds W sz v l.length (encL en l) := by
  exact list_of hsz hs hen hop (Arg.slice hu hf h)
/-- A slice inside an argument. -/
theorem Rd.list {t e : TypeId} {v : Value} {m sz : Nat} {ts : List TypeId} {α : Type} {en : α → List Value} {ok : α → Prop} (hu : P.underlying t = some (.slice e)) (hf : flat P m e = some ts) (hsz : P.cellsOf e = sz) (hs : 0 < sz) (hen : ∀ a, (en a).length = sz)
    (hop : ∀ cs, All2 (Rd enc P W 0 (fun _ => true) true) ts cs → ∃ a, cs = en a ∧ ok a) (h : Rd enc P W 0 (fun _ => true) true t v) :
    ∃ l : List α, (∀ a ∈ l, ok a) ∧ Rds W sz v l.length (encL en l) :=
  list_of hsz hs hen hop (by
    rcases Rd.slice hu hf h with h | ⟨a, l, c, he, _, hl, hm, hc⟩
    · exact Or.inl h
    · exact Or.inr ⟨a, l, c, he, hl, hm, hc⟩)
end
end Go.Proofs.YtnbbooilapelmaaGreatDoor
