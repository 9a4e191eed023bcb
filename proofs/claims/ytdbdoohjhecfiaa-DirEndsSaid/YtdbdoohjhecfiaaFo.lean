/-
  An entry that waits, behind some of the answers.
-/
import Derived.KernelRfl
import Derived.Test.YtdbdoohjhecfiaaFn
namespace Go.Proofs.Ytdbdoohjhecfiaa.V
open Go.RowKit Go.Proofs.Ytdbdoohjhecfiaa
set_option linter.unusedSimpArgs false
set_option linter.unusedVariables false
/-- The entry e0, asked (kind kd, by c, w0 is waited for), behind the answers of D. -/
structure Mid (e0 : E) (kd c w0 : Int) (kept : Bool) (D : List Int) (x : E) : Prop where
  good : GoodP x
  here : x.here = e0.here
  dirty : x.dirty = e0.dirty
  data : x.data = e0.data
  busy : x.busy = kd
  by_ : x.by_ = c
  wait : ∀ k : Nat, k < 8 → tb x.wait k = (tb w0 k && !decide ((k : Int) ∈ D))
  owner : x.owner = if e0.owner ∈ D then -1 else e0.owner
  share : ∀ k : Nat, k < 8 → tb x.share k = ((tb e0.share k && !decide ((k : Int) ∈ D)) || (kept && decide ((k : Int) ∈ D)))
  us : U x.share
  uw : U x.wait
theorem Mid.start {e0 : E} {kd c w0 : Int} {kept : Bool} (g : GoodP (busyF e0 kd c w0)) (us : U e0.share) (uw : U w0) : Mid e0 kd c w0 kept [] (busyF e0 kd c w0) :=
  ⟨g, rfl, rfl, rfl, rfl, rfl, fun k hk => by simp [busyF], by simp [busyF], fun k hk => by simp [busyF], us, uw⟩
/-- What an answer leaves, as long as it is waited, or where it was a flush. -/
theorem ans_val {x : E} {d : Int} {m : M} (g : GoodP x) (hm : mgoodF m = true) (hk : ansF m.kind = true) (hd : m.dirty = false) (hb : x.busy ≠ 0) (hw : andI x.wait (bitF d) ≠ 0) (h : anI x.wait (bitF d) ≠ 0 ∨ x.busy = 4 ∨ x.busy = 5) :
    answF x d m = (⟨x.here, x.dirty, x.data, if x.owner = d then -1 else x.owner, if m.kept then orI (anI x.share (bitF d)) (bitF d) else anI x.share (bitF d), x.busy, x.by_, anI x.wait (bitF d)⟩, [], 0) := by
  have gF := (good_iff x).2 g
  obtain ⟨kd, hkd, rfl, _⟩ := (and_bit_nz _ _).1 hw
  have hcB : coreF kd = true := by unfold coreF; simp; omega
  have pre : ¬ ((goodF x && (coreF kd && (mgoodF m && ansF m.kind))) = false) := by rw [gF, hcB, hm, hk]; simp
  have p2 : ¬ (x.busy = 0 ∨ andI x.wait (bitF kd) = 0) := by omega
  unfold answF
  rw [if_neg pre, if_neg p2, hd]
  simp only [Bool.false_or, Bool.false_eq_true, if_false]
  split
  · rfl
  · rename_i hz
    rw [if_neg (by omega), if_neg (by omega)]
    have : anI x.wait (bitF kd) = 0 := by omega
    rw [this]
theorem Mid.step {e0 : E} {kd c w0 : Int} {kept : Bool} {D : List Int} {x : E} (h : Mid e0 kd c w0 kept D x) {d : Int} {m : M} (hm : mgoodF m = true) (hk : ansF m.kind = true) (hd : m.dirty = false) (hkp : m.kept = kept) (hb : kd ≠ 0)
    (hin : ∃ k : Nat, k < 8 ∧ d = k ∧ tb w0 k = true) (hn : d ∉ D) (hl : anI x.wait (bitF d) ≠ 0 ∨ kd = 4 ∨ kd = 5) :
    Mid e0 kd c w0 kept (D ++ [d]) (answF x d m).1 ∧ (answF x d m).2.1 = [] ∧ (answF x d m).2.2 = 0 := by
  obtain ⟨q, hq, rfl, hwq⟩ := hin
  have hw : andI x.wait (bitF q) ≠ 0 := (and_bit_nz _ _).2 ⟨q, hq, rfl, by rw [h.wait q hq, hwq]; simp [hn]⟩
  have hv := ans_val h.good hm hk hd (by rw [h.busy]; exact hb) hw (by rw [h.busy]; exact hl)
  have hf := ans_fit (e := x) (c := q) (m := m) (by rw [hv])
  rw [hv] at hf ⊢
  have hg : GoodP _ := (good_iff _).1 (by unfold fitB at hf; simp only [Bool.and_eq_true] at hf; exact hf.1)
  refine ⟨⟨hg, h.here, h.dirty, h.data, h.busy, h.by_, fun k hk => ?_, ?_, fun k hk => ?_, ?_, U_an _ _⟩, rfl, rfl⟩
  · rw [tb_an _ _ _ hk, h.wait k hk, tb_bit _ _ hk]
    have : ((q : Int) = (k : Int)) ↔ ((k : Int) = q) := eq_comm
    cases tb w0 k <;> by_cases h1 : (k : Int) ∈ D <;> by_cases h2 : (k : Int) = q <;> simp [h1, h2, this] 
  · simp only [h.owner, List.mem_append, List.mem_singleton]
    by_cases h1 : e0.owner ∈ D
    · simp [h1]
    · by_cases h2 : e0.owner = q
      · simp [h1, h2]
      · simp [h1, h2]
  · rw [hkp]
    have : ((q : Int) = (k : Int)) ↔ ((k : Int) = q) := eq_comm
    cases kept
    · simp only [Bool.false_eq_true, if_false, tb_an _ _ _ hk, h.share k hk, tb_bit _ _ hk]
      cases tb e0.share k <;> by_cases h1 : (k : Int) ∈ D <;> by_cases h2 : (k : Int) = q <;> simp [h1, h2, this]
    · simp only [if_true, tb_or, tb_an _ _ _ hk, h.share k hk, tb_bit _ _ hk]
      cases tb e0.share k <;> by_cases h1 : (k : Int) ∈ D <;> by_cases h2 : (k : Int) = q <;> simp [h1, h2, this]
  · show U (if m.kept = true then orI (anI x.share (bitF q)) (bitF q) else anI x.share (bitF q))
    split
    · exact U_or _ _
    · exact U_an _ _
end Go.Proofs.Ytdbdoohjhecfiaa.V
