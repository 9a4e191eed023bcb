/-
  A request that makes an entry wait, answer by answer.
-/
import Derived.KernelRfl
import Derived.Test.YtdbdoohjhecfiaaFp
namespace Go.Proofs.Ytdbdoohjhecfiaa.V
open Go.RowKit Go.Proofs.Ytdbdoohjhecfiaa
set_option linter.unusedSimpArgs false
set_option linter.unusedVariables false
def keptK (k : Int) : Bool := k == 1 || k == 4
def toldK (k : Int) : Int := if keptK k then 13 else 12
def waitK (e : E) (k c : Int) : Int := if keptK k then bitF e.owner else if k = 2 then anI (orI (bitF e.owner) e.share) (bitF c) else orI (bitF e.owner) e.share
theorem ask_waits {e : E} {c : Int} {m : M} (h : (askF e c m).2.2 = 0) (hb : (askF e c m).1.busy ≠ 0) :
    askF e c m = (busyF e m.kind c (waitK e m.kind c), allF (waitK e m.kind c) (toldK m.kind) m.line, 0) ∧ (m.kind = 1 ∨ m.kind = 2 ∨ m.kind = 4 ∨ m.kind = 5) ∧ (m.kind = 1 ∨ m.kind = 2 → waitK e m.kind c ≠ 0) := by
  obtain ⟨g, c1, c2, mg, ma, b0, hh⟩ := ask_ok h
  have hk : 1 ≤ m.kind ∧ m.kind ≤ 5 := by simpa [asksF] using ma
  have o2 := g.o2
  obtain ⟨p1, p2, p3⟩ := ask_go (m := m) ⟨(good_iff e).2 g, hh, b0, c1, c2⟩ mg ma
  unfold askF at hb ⊢
  rw [if_neg p1, if_neg p2, if_neg p3] at hb ⊢
  split at hb
  · rename_i k1
    rw [if_pos k1]
    split at hb
    · rename_i ho
      rw [if_pos ho, k1]
      refine ⟨?_, .inl rfl, fun _ => ?_⟩
      · rw [show toldK 1 = 13 from rfl, show waitK e 1 c = bitF e.owner from rfl, allF_bit ho.1 o2]
      · exact bit_nz ho.1 o2
    · split at hb
      · simp [ownF] at hb
      · exact absurd b0 hb
  · rename_i k1
    rw [if_neg k1]
    split at hb
    · rename_i k2
      rw [if_pos k2]
      split at hb
      · simp [ownF] at hb
      · rename_i hne
        rw [if_neg hne, k2]
        exact ⟨rfl, .inr (.inl rfl), fun _ => hne⟩
    · rename_i k2
      rw [if_neg k2]
      split at hb
      · split at hb
        · split at hb <;> exact absurd b0 hb
        · exact absurd b0 hb
      · rename_i k3
        rw [if_neg k3]
        split at hb
        · rename_i k4
          rw [if_pos k4, k4]
          exact ⟨rfl, .inr (.inr (.inl rfl)), fun h => by omega⟩
        · rename_i k4
          have k5 : m.kind = 5 := by omega
          rw [if_neg k4, k5]
          exact ⟨rfl, .inr (.inr (.inr rfl)), fun h => by omega⟩
theorem nodup_take {l : List Int} (h : l.Nodup) {i : Nat} {d : Int} (hd : l[i]? = some d) : l.take (i + 1) = l.take i ++ [d] ∧ d ∉ l.take i := by
  have e : l.take (i + 1) = l.take i ++ [d] := by rw [List.take_add_one, hd]; rfl
  refine ⟨e, fun hin => ?_⟩
  have := List.Nodup.sublist (List.take_sublist (i + 1) l) h
  rw [e, List.nodup_append] at this
  exact this.2.2 d hin d (by simp) rfl
/-- What is in the end. -/
structure FinP (kd c : Int) (x : E) : Prop where
  m : kd = 2 → x.busy = 0 ∧ x.owner = c ∧ x.share = 0
  s : kd = 1 → x.busy = 0 ∧ x.owner = -1 ∧ andI x.share (bitF c) ≠ 0
  f : kd = 4 ∨ kd = 5 → readyF x = true ∧ x.owner = -1
  w : kd = 5 → x.share = 0
def orderC (back : Bool) (W : Int) : List Int := if back then (coresF W).reverse else coresF W
theorem order_nodup (back : Bool) (W : Int) : (orderC back W).Nodup := by
  unfold orderC; split
  · exact List.pairwise_reverse.2 ((cores_nodup W).imp fun h => Ne.symm h)
  · exact cores_nodup W
theorem order_mem (back : Bool) (W d : Int) : d ∈ orderC back W ↔ d ∈ coresF W := by
  unfold orderC; split <;> simp
theorem order_len (back : Bool) (W : Int) : (orderC back W).length = (coresF W).length := by
  unfold orderC; split <;> simp
theorem mid_all {e : E} {kd c : Int} {back : Bool} {x : E} (he : GoodP e) (hu : U e.share) (hk : kd = 4 ∨ kd = 5) (hm : Mid e kd c (waitK e kd c) (keptK kd) (orderC back (waitK e kd c)) x) : FinP kd c x := by
  have hw : x.wait = 0 := (u_zero hm.uw).2 fun k hk => by
    rw [hm.wait k hk]
    cases ht : tb (waitK e kd c) k with
    | false => rfl
    | true => simp [(order_mem _ _ _).2 ((mem_cores _ _).2 ⟨k, hk, rfl, ht⟩)]
  have hin : ∀ k : Nat, k < 8 → e.owner = k → (k : Int) ∈ orderC back (waitK e kd c) := fun k hk' ho => by
    refine (order_mem _ _ _).2 ((mem_cores _ _).2 ⟨k, hk', rfl, ?_⟩)
    rcases hk with rfl | rfl
    · simp [waitK, keptK, tb_bit _ k hk', ho]
    · simp [waitK, keptK, tb_or, tb_bit _ k hk', ho]
  have ho : x.owner = -1 := by
    rw [hm.owner]
    split
    · rfl
    · rename_i hni
      rcases Int.lt_or_le e.owner 0 with h | h
      · have := he.o1; omega
      · have h2 := he.o2
        have := hin e.owner.toNat (by omega) (by omega)
        rw [show ((e.owner.toNat : Nat) : Int) = e.owner by omega] at this
        exact absurd this hni
  refine ⟨fun h => by omega, fun h => by omega, fun _ => ⟨?_, ho⟩, fun h5 => ?_⟩
  · unfold readyF
    rw [(good_iff x).2 hm.good, hm.busy, hw]
    rcases hk with rfl | rfl <;> rfl
  · subst h5
    refine (u_zero hm.us).2 fun k hk => ?_
    rw [hm.share k hk]
    cases ht : tb e.share k with
    | false => simp [keptK]
    | true =>
      have : (k : Int) ∈ orderC back (waitK e 5 c) := (order_mem _ _ _).2 ((mem_cores _ _).2 ⟨k, hk, rfl, by simp [waitK, keptK, tb_or, ht]⟩)
      simp [this, keptK]
theorem ans_last {x : E} {d : Int} {m : M} (g : GoodP x) (hm : mgoodF m = true) (hk : ansF m.kind = true) (hd : m.dirty = false) (hw : andI x.wait (bitF d) ≠ 0) (h : anI x.wait (bitF d) = 0) :
    (x.busy = 1 → answF x d m = (⟨x.here, x.dirty, x.data, if x.owner = d then -1 else x.owner, orI (if m.kept then orI (anI x.share (bitF d)) (bitF d) else anI x.share (bitF d)) (bitF x.by_), 0, 0, 0⟩, [tellF x.by_ 8 m.line x.data], 0)) ∧
    (x.busy = 2 → answF x d m = (⟨x.here, x.dirty, x.data, x.by_, 0, 0, 0, 0⟩, [tellF x.by_ 10 m.line x.data], 0)) := by
  have gF := (good_iff x).2 g
  obtain ⟨kd, hkd, rfl, _⟩ := (and_bit_nz _ _).1 hw
  have hcB : coreF kd = true := by unfold coreF; simp; omega
  have pre : ¬ ((goodF x && (coreF kd && (mgoodF m && ansF m.kind))) = false) := by rw [gF, hcB, hm, hk]; simp
  refine ⟨fun hb => ?_, fun hb => ?_⟩
  · unfold answF
    rw [if_neg pre, if_neg (by omega), hd]
    simp only [Bool.false_or, Bool.false_eq_true, if_false]
    rw [if_neg (by simp [h]), if_pos hb]
  · unfold answF
    rw [if_neg pre, if_neg (by omega), hd]
    simp only [Bool.false_or, Bool.false_eq_true, if_false]
    rw [if_neg (by simp [h]), if_neg (by omega), if_pos hb]
def ansM (kd line : Int) : M := ⟨if keptK kd then 7 else 6, line, false, keptK kd, Z8⟩
theorem ends_round {e : E} {kd c line : Int} {back : Bool} {x : E} {i : Nat} {d : Int} (he : GoodP e) (hu : U e.share) (hl : 0 ≤ line ∧ line ≤ 63) (hc : 0 ≤ c ∧ c ≤ 7) (hkd : kd = 1 ∨ kd = 2 ∨ kd = 4 ∨ kd = 5)
    (hm : Mid e kd c (waitK e kd c) (keptK kd) ((orderC back (waitK e kd c)).take i) x) (hd : (orderC back (waitK e kd c))[i]? = some d) :
    (answF x d (ansM kd line)).2.2 = 0 ∧ (i + 1 < (coresF (waitK e kd c)).length → (answF x d (ansM kd line)).2.1 = [] ∧ (answF x d (ansM kd line)).1.busy = kd ∧ Mid e kd c (waitK e kd c) (keptK kd) ((orderC back (waitK e kd c)).take (i + 1)) (answF x d (ansM kd line)).1) ∧
    (i + 1 = (coresF (waitK e kd c)).length → FinP kd c (answF x d (ansM kd line)).1) ∧ (answF (answF x d (ansM kd line)).1 d (ansM kd line)).2.2 ≠ 0 := by
  obtain ⟨t1, t2⟩ := nodup_take (order_nodup _ _) hd
  have hin := (order_mem _ _ _).1 (List.mem_of_getElem? hd)
  obtain ⟨q, hq, rfl, hwq⟩ := (mem_cores _ _).1 hin
  have hm1 : mgoodF (ansM kd line) = true := by rcases hkd with rfl | rfl | rfl | rfl <;> simp [mgoodF, ansM, keptK, wordsF, hl]
  have hm2 : ansF (ansM kd line).kind = true := by rcases hkd with rfl | rfl | rfl | rfl <;> rfl
  have hb : kd ≠ 0 := by omega
  have hw : andI x.wait (bitF q) ≠ 0 := (and_bit_nz _ _).2 ⟨q, hq, rfl, by rw [hm.wait q hq, hwq]; simp [t2]⟩
  have hlen := order_len back (waitK e kd c)
  have hi : i < (coresF (waitK e kd c)).length := by rw [← hlen]; exact (List.getElem?_eq_some_iff.1 hd).1
  have no2 : ∀ z : E, (z.busy ≠ 0 → tb z.wait q = false) → (answF z q (ansM kd line)).2.2 ≠ 0 := fun z hz h => by
    obtain ⟨_, _, _, _, _, h1, h2⟩ := ans_ok h
    obtain ⟨k, hk, e1, h3⟩ := (and_bit_nz _ _).1 h2
    obtain rfl : q = k := by omega
    rw [hz h1] at h3; cases h3
  by_cases hlast : anI x.wait (bitF q) ≠ 0 ∨ kd = 4 ∨ kd = 5
  · obtain ⟨s1, s2, s3⟩ := hm.step (m := ansM kd line) hm1 hm2 rfl rfl hb ⟨q, hq, rfl, hwq⟩ t2 hlast
    rw [← t1] at s1
    refine ⟨s3, fun _ => ⟨s2, s1.busy, s1⟩, fun hn => ?_, no2 _ fun _ => ?_⟩
    · rw [List.take_of_length_le (by omega)] at s1
      rcases hkd with h | h | h | h
      all_goals try exact mid_all he hu (by omega) s1
      all_goals
        exfalso
        obtain ⟨k, hk, h3⟩ := (u_nz (U_an _ _)).1 (hlast.resolve_right (by omega))
        rw [tb_an _ _ _ hk, hm.wait k hk, tb_bit _ _ hk] at h3
        simp only [Bool.and_eq_true, Bool.not_eq_true', decide_eq_false_iff_not] at h3
        have : (k : Int) ∈ orderC back (waitK e kd c) := (order_mem _ _ _).2 ((mem_cores _ _).2 ⟨k, hk, rfl, h3.1.1⟩)
        rw [← List.take_of_length_le (l := orderC back (waitK e kd c)) (i := i + 1) (by omega), t1] at this
        simp only [List.mem_append, List.mem_singleton] at this
        rcases this with h | h
        · exact h3.1.2 h
        · exact h3.2 h.symm
    · rw [s1.wait q hq, t1]; simp
  · have h0 : anI x.wait (bitF q) = 0 := by omega
    have hk12 : kd = 1 ∨ kd = 2 := by omega
    obtain ⟨l1, l2⟩ := ans_last (m := ansM kd line) hm.good hm1 hm2 rfl hw h0
    have hnot : ¬ i + 1 < (coresF (waitK e kd c)).length := fun h => by
      obtain ⟨d', hd'⟩ : ∃ d', (orderC back (waitK e kd c))[i + 1]? = some d' := ⟨_, List.getElem?_eq_getElem (by omega)⟩
      obtain ⟨u1, u2⟩ := nodup_take (order_nodup _ _) hd'
      obtain ⟨q', hq', rfl, hwq'⟩ := (mem_cores _ _).1 ((order_mem _ _ _).1 (List.mem_of_getElem? hd'))
      rw [t1] at u2
      simp only [List.mem_append, List.mem_singleton, not_or] at u2
      have := (u_zero (U_an _ _)).1 h0 q' hq'
      rw [tb_an _ _ _ hq', hm.wait q' hq', hwq', tb_bit _ _ hq'] at this
      simp only [Bool.true_and, Bool.and_eq_false_iff, Bool.not_eq_false', decide_eq_true_eq] at this
      rcases this with h | h
      · exact u2.1 h
      · exact u2.2 h.symm
    rcases hk12 with h1 | h1
    · have l1 := l1 (by rw [hm.busy]; exact h1)
      have hf := ans_fit (e := x) (c := q) (m := ansM kd line) (by rw [l1])
      have hg : GoodP (answF x q (ansM kd line)).1 := (good_iff _).1 (by unfold fitB at hf; simp only [Bool.and_eq_true] at hf; exact hf.1)
      have hby : andI (answF x q (ansM kd line)).1.share (bitF c) ≠ 0 := by
        rw [l1]
        refine (and_bit_nz _ _).2 ⟨c.toNat, by omega, by omega, ?_⟩
        simp only [tb_or, hm.by_]
        rw [tb_bit _ _ (show c.toNat < 8 by omega)]
        simp
        omega
      refine ⟨by rw [l1], fun h => absurd h hnot, fun _ => ⟨fun h => by omega, fun _ => ⟨by rw [l1], ?_, hby⟩, fun h => by omega, fun h => by omega⟩, no2 _ fun h => absurd (by rw [l1]) h⟩
      have := hg.o1
      rcases Int.lt_or_le (answF x q (ansM kd line)).1.owner 0 with h | h
      · omega
      · have := hg.os h
        rw [this] at hby
        obtain ⟨k, hk, _, h3⟩ := (and_bit_nz _ _).1 hby
        rw [tb_zero] at h3; cases h3
    · have l2 := l2 (by rw [hm.busy]; exact h1)
      refine ⟨by rw [l2], fun h => absurd h hnot, fun _ => ⟨fun _ => ⟨by rw [l2], by rw [l2]; exact hm.by_, by rw [l2]⟩, fun h => by omega, fun h => by omega, fun h => by omega⟩, no2 _ fun h => absurd (by rw [l2]) h⟩
end Go.Proofs.Ytdbdoohjhecfiaa.V
