/-
  Whatever a good entry is asked or answered, it stays good, and what is told fits it.
-/
import Derived.KernelRfl
import Derived.Test.YtdbdoohjhecfiaaFl
namespace Go.Proofs.Ytdbdoohjhecfiaa.V
open Go.RowKit Go.Proofs.Ytdbdoohjhecfiaa
set_option linter.unusedSimpArgs false
set_option linter.unusedVariables false
theorem fit_of {e : E} {l : List Sd} (h : GoodP e) (h1 : ∀ s ∈ l, okS e s = true) : fitB e l = true := by
  unfold fitB
  rw [(good_iff e).2 h, List.all_eq_true.2 h1]
  have := h.os
  grind
theorem ask_ok {e : E} {c : Int} {m : M} (h : (askF e c m).2.2 = 0) : GoodP e ∧ 0 ≤ c ∧ c ≤ 7 ∧ mgoodF m = true ∧ asksF m.kind = true ∧ e.busy = 0 ∧ e.here = true := by
  unfold askF at h
  split at h
  · simp at h
  · rename_i h1
    split at h
    · simp at h
    · rename_i h2
      split at h
      · simp at h
      · rename_i h3
        simp only [Bool.and_eq_false_iff, not_or, Bool.not_eq_false, coreF, Bool.and_eq_true, decide_eq_true_eq] at h1
        exact ⟨(good_iff e).1 h1.1, h1.2.1.1, h1.2.1.2, h1.2.2.1, h1.2.2.2, by simpa using h2, by simpa using h3⟩
theorem mem_all {s : Sd} {mask kind line : Int} (h : s ∈ allF mask kind line) : s.2.1 = kind ∧ ∃ k : Nat, k < 8 ∧ s.1 = k ∧ tb mask k = true := by
  unfold allF at h
  obtain ⟨c, hc, rfl⟩ := List.mem_map.1 h
  exact ⟨rfl, (mem_cores _ _).1 hc⟩
theorem ok_wait {e : E} {mask kind line : Int} (hk : kind = 12 ∨ kind = 13) (hw : e.wait = mask) : ∀ s ∈ allF mask kind line, okS e s = true := by
  intro s hs
  obtain ⟨h1, h2⟩ := mem_all hs
  have := (and_bit_nz mask s.1).2 h2
  unfold okS
  rw [h1, hw]
  rcases hk with rfl | rfl <;> simp [this]
theorem bit_nz {c : Int} (h : 0 ≤ c) (h' : c ≤ 7) : bitF c ≠ 0 := by
  rw [u_nz (U_bit c)]
  exact ⟨c.toNat, by omega, by rw [tb_bit _ _ (by omega)]; simp; omega⟩
theorem ask_fit {e : E} {c : Int} {m : M} (hU : U e.share ∧ U e.wait) (h : (askF e c m).2.2 = 0) : fitB (askF e c m).1 (askF e c m).2.1 = true := by
  obtain ⟨g, c1, c2, mg, ma, b0, hh⟩ := ask_ok h
  have gF := (good_iff e).2 g
  have hcB : coreF c = true := by unfold coreF; simp [c1, c2]
  obtain ⟨by0, w0⟩ := g.b0 b0
  have pre : ¬ ((goodF e && (coreF c && (mgoodF m && asksF m.kind))) = false) := by rw [gF, hcB, mg, ma]; simp
  have p2 : ¬ (e.busy ≠ 0) := by omega
  have p3 : ¬ (e.here = false) := by simp [hh]
  have tc : ∀ k : Nat, k < 8 → tb (bitF c) k = decide (c = k) := fun k hk => tb_bit c k hk
  have to : ∀ k : Nat, k < 8 → tb (bitF e.owner) k = decide (e.owner = k) := fun k hk => tb_bit e.owner k hk
  obtain ⟨o1, o2, os, nh, ws, _, _, _, _⟩ := g
  unfold askF
  rw [if_neg pre, if_neg p2, if_neg p3]
  split
  · split
    · rename_i ho
      refine fit_of ⟨o1, o2, os, fun h => by simp [busyF] at h; exact absurd h p3, fun k hk hw => ?_, fun h => by simp [busyF] at h, .inr (.inl rfl), fun _ => ⟨c1, c2⟩, fun _ => bit_nz ho.1 o2⟩ fun s hs => ?_
      · simp only [busyF, to k hk, decide_eq_true_eq] at hw
        exact .inr hw
      · simp only [List.mem_singleton] at hs
        subst hs
        have : andI (bitF e.owner) (bitF e.owner) ≠ 0 := (and_bit_nz _ _).2 ⟨e.owner.toNat, by omega, by omega, by rw [to _ (by omega)]; simp; omega⟩
        simp [okS, tellF, busyF, this]
    · split
      · refine fit_of ⟨by simp [ownF]; omega, c2, fun _ => rfl, fun h => by simp [ownF] at h; exact absurd h p3, fun k hk hw => by simp [ownF, tb_zero] at hw, fun _ => ⟨rfl, rfl⟩, .inl rfl, fun h => absurd rfl h, fun h => by simp [ownF] at h⟩ fun s hs => ?_
        simp only [List.mem_singleton] at hs
        subst hs
        simp [okS, tellF, ownF]
      · rename_i ho hs0
        have hon : e.owner < 0 := by
          rcases Int.lt_or_le e.owner 0 with h | h
          · exact h
          · exact absurd (os h) hs0
        refine fit_of ⟨o1, o2, fun h => by simp at h; omega, fun h => absurd h p3, fun k hk hw => ?_, fun _ => ⟨by0, w0⟩, .inl b0, fun h => absurd b0 h, fun h => by simp only at h; omega⟩ fun s hs => ?_
        · simp only [tb_or, Bool.or_eq_true]
          rcases ws k hk hw with h | h
          · exact .inl (.inl h)
          · exact .inr h
        · simp only [List.mem_singleton] at hs
          subst hs
          have : andI (orI e.share (bitF c)) (bitF c) ≠ 0 := (and_bit_nz _ _).2 ⟨c.toNat, by omega, by omega, by rw [tb_or, tc _ (by omega)]; simp; omega⟩
          simp [okS, tellF, this]
  · split
    · split
      · refine fit_of ⟨by simp [ownF]; omega, c2, fun _ => rfl, fun h => by simp [ownF] at h; exact absurd h p3, fun k hk hw => by simp [ownF, tb_zero] at hw, fun _ => ⟨rfl, rfl⟩, .inl rfl, fun h => absurd rfl h, fun h => by simp [ownF] at h⟩ fun s hs => ?_
        simp only [List.mem_singleton] at hs
        subst hs
        simp [okS, tellF, ownF]
      · rename_i hne
        refine fit_of ⟨o1, o2, os, fun h => by simp [busyF] at h; exact absurd h p3, fun k hk hw => ?_, fun h => by simp [busyF] at h, .inr (.inr (.inl rfl)), fun _ => ⟨c1, c2⟩, fun _ => hne⟩ (ok_wait (.inl rfl) rfl)
        simp only [busyF, tb_an _ _ _ hk, tb_or, to k hk, Bool.and_eq_true, Bool.or_eq_true, decide_eq_true_eq] at hw
        simp only [busyF]
        exact hw.1.symm
    · split
      · split
        · rename_i ho
          refine fit_of (e := (if m.dirty = true then { e with owner := -1, data := m.data, dirty := true } else { e with owner := -1 })) ?_ fun s hs => ?_
          · have hs0 := os (by omega)
            split
            · exact ⟨by simp, by simp, fun h => by simp at h, fun h => absurd h p3, fun k hk hw => (by simp only [w0, tb_zero] at hw; cases hw), fun _ => ⟨by0, w0⟩, .inl b0, fun h => absurd b0 h, fun h => by simp only at h; omega⟩
            · exact ⟨by simp, by simp, fun h => by simp at h, fun h => absurd h p3, fun k hk hw => (by simp only [w0, tb_zero] at hw; cases hw), fun _ => ⟨by0, w0⟩, .inl b0, fun h => absurd b0 h, fun h => by simp only at h; omega⟩
          · simp only [List.mem_singleton] at hs
            subst hs
            simp [okS, tellF]
        · rename_i ho
          refine fit_of ⟨o1, o2, fun h => ?_, fun h => absurd h p3, fun k hk hw => (by simp only [w0, tb_zero] at hw; cases hw), fun _ => ⟨by0, w0⟩, .inl b0, fun h => absurd b0 h, fun h => by simp only at h; omega⟩ fun s hs => ?_
          · have := os h
            simp only [this]
            exact (u_zero (U_an _ _)).2 fun k hk => by rw [tb_an _ _ _ hk, tb_zero]; rfl
          · simp only [List.mem_singleton] at hs
            subst hs
            simp [okS, tellF]
      · split
        · refine fit_of ⟨o1, o2, os, fun h => by simp [busyF] at h; exact absurd h p3, fun k hk hw => ?_, fun h => by simp [busyF] at h, .inr (.inr (.inr (.inl rfl))), fun _ => ⟨c1, c2⟩, fun h => by simp [busyF] at h⟩ (ok_wait (.inr rfl) rfl)
          simp only [busyF, to k hk, decide_eq_true_eq] at hw
          exact .inr hw
        · refine fit_of ⟨o1, o2, os, fun h => by simp [busyF] at h; exact absurd h p3, fun k hk hw => ?_, fun h => by simp [busyF] at h, .inr (.inr (.inr (.inr rfl))), fun _ => ⟨c1, c2⟩, fun h => by simp [busyF] at h⟩ (ok_wait (.inl rfl) rfl)
          simp only [busyF, tb_or, to k hk, Bool.or_eq_true, decide_eq_true_eq] at hw
          simp only [busyF]
          exact hw.symm
theorem ans_ok {e : E} {c : Int} {m : M} (h : (answF e c m).2.2 = 0) : GoodP e ∧ 0 ≤ c ∧ c ≤ 7 ∧ mgoodF m = true ∧ ansF m.kind = true ∧ e.busy ≠ 0 ∧ andI e.wait (bitF c) ≠ 0 := by
  unfold answF at h
  split at h
  · simp at h
  · rename_i h1
    split at h
    · simp at h
    · rename_i h2
      simp only [Bool.and_eq_false_iff, not_or, Bool.not_eq_false, coreF, Bool.and_eq_true, decide_eq_true_eq] at h1
      exact ⟨(good_iff e).1 h1.1, h1.2.1.1, h1.2.1.2, h1.2.2.1, h1.2.2.2, by omega, by omega⟩
theorem ans_fit {e : E} {c : Int} {m : M} (h : (answF e c m).2.2 = 0) : fitB (answF e c m).1 (answF e c m).2.1 = true := by
  obtain ⟨g, c1, c2, mg, ma, b0, hw⟩ := ans_ok h
  have gF := (good_iff e).2 g
  have hcB : coreF c = true := by unfold coreF; simp [c1, c2]
  have pre : ¬ ((goodF e && (coreF c && (mgoodF m && ansF m.kind))) = false) := by rw [gF, hcB, mg, ma]; simp
  have p2 : ¬ (e.busy = 0 ∨ andI e.wait (bitF c) = 0) := by omega
  have tc : ∀ k : Nat, k < 8 → tb (bitF c) k = decide (c = k) := fun k hk => tb_bit c k hk
  obtain ⟨o1, o2, os, nh, ws, _, b1, hby, _⟩ := g
  have hh : e.here = true := by
    cases hq : e.here with
    | true => rfl
    | false => exact absurd (nh hq).2.2.2.2 b0
  obtain ⟨kc, hkc, rfl, hwc⟩ := (and_bit_nz _ _).1 hw
  have how : (if e.owner = (kc : Int) then -1 else e.owner) < 0 ∧ -1 ≤ (if e.owner = (kc : Int) then -1 else e.owner) := by
    split
    · omega
    · rename_i hne
      refine ⟨?_, o1⟩
      rcases Int.lt_or_le e.owner 0 with h | h
      · exact h
      · have h0 := os h
        rcases ws kc hkc hwc with h | h
        · rw [h0, tb_zero] at h; cases h
        · omega
  have hws : ∀ k : Nat, k < 8 → tb (anI e.wait (bitF kc)) k = true → tb (if m.kept = true then orI (anI e.share (bitF kc)) (bitF kc) else anI e.share (bitF kc)) k = true ∨ (if e.owner = (kc : Int) then -1 else e.owner) = k := by
    intro k hk h
    rw [tb_an _ _ _ hk, tc k hk] at h
    simp only [Bool.and_eq_true, Bool.not_eq_true', decide_eq_false_iff_not] at h
    rcases ws k hk h.1 with h1 | h1
    · left
      split
      · rw [tb_or, tb_an _ _ _ hk, h1, tc k hk]; simp
      · rw [tb_an _ _ _ hk, h1, tc k hk]; simp; omega
    · right
      rw [if_neg (by omega)]
      exact h1
  unfold answF
  rw [if_neg pre, if_neg p2]
  split
  · rename_i hw'
    exact fit_of ⟨how.2, by have := how.1; simp only; omega, fun h => by have := how.1; simp only at h; omega, fun h => absurd hh (by simp only at h; simp [h]), hws, fun h => absurd h b0, b1, hby, fun _ => hw'⟩ (by simp)
  · split
    · refine fit_of ⟨how.2, by have := how.1; simp only; omega, fun h => by have := how.1; simp only at h; omega, fun h => absurd hh (by simp only at h; simp [h]), fun k hk h => by simp [tb_zero] at h, fun _ => ⟨rfl, rfl⟩, .inl rfl, fun h => absurd rfl h, fun h => by simp at h⟩ fun s hs => ?_
      simp only [List.mem_singleton] at hs
      subst hs
      have hb := hby b0
      have : ∀ x, andI (orI x (bitF e.by_)) (bitF e.by_) ≠ 0 := fun x => (and_bit_nz _ _).2 ⟨e.by_.toNat, by omega, by omega, by rw [tb_or, tb_bit _ _ (by omega)]; simp; omega⟩
      simp [okS, tellF, this]
    · split
      · have hb := hby b0
        refine fit_of ⟨by simp only; omega, hb.2, fun _ => rfl, fun h => absurd hh (by simp only at h; simp [h]), fun k hk h => by simp [tb_zero] at h, fun _ => ⟨rfl, rfl⟩, .inl rfl, fun h => absurd rfl h, fun h => by simp at h⟩ fun s hs => ?_
        simp only [List.mem_singleton] at hs
        subst hs
        simp [okS, tellF]
      · exact fit_of ⟨how.2, by have := how.1; simp only; omega, fun h => by have := how.1; simp only at h; omega, fun h => absurd hh (by simp only at h; simp [h]), fun k hk h => by simp [tb_zero] at h, fun h => absurd h b0, b1, hby, fun h => by simp only at h; omega⟩ (by simp)
theorem push_fit {e : E} (h : (pushF e).2.2 = 0) : fitB (pushF e).1 (pushF e).2.1 = true := by
  unfold pushF at h ⊢
  split at h
  · simp at h
  · rename_i hr
    rw [if_neg hr]
    simp only [readyF, Bool.and_eq_false_iff, not_or, Bool.not_eq_false] at hr
    obtain ⟨g, hb, hw⟩ := hr
    have g := (good_iff e).1 g
    have hw : e.wait = 0 := by simpa using hw
    have hb0 : e.busy ≠ 0 := by simp at hb; omega
    refine fit_of ⟨g.o1, g.o2, g.os, fun h => absurd (g.nh h).2.2.2.2 hb0, fun k hk h => by simp [tb_zero] at h, fun _ => ⟨rfl, rfl⟩, .inl rfl, fun h => absurd rfl h, fun h => by simp at h⟩ fun s hs => ?_
    simp only [List.mem_singleton] at hs
    subst hs
    simp [okS, tellF]
end Go.Proofs.Ytdbdoohjhecfiaa.V
