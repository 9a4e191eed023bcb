/-
  MsgQueues, walked: the queue and the statement's own list have the same messages, call by call.
-/
import Derived.Test.YtjkckcmogpipmaaForms
import Derived.Test.YtjkckcmogpipmaaWakes
import Derived.Test.YtjkckcmogpipmaaKitE
namespace Go.Proofs.Ytjkckcmogpipmaa
open Go.RowKit
attribute [local go_sem ↓] Go.wp_at_zero Go.wp_at_succ

structure St where
  kind : Int
  m : M
def encSt (s : St) : List Value := .int .i64 s.kind :: encM s.m
theorem encSt_len (s : St) : (encSt s).length = 13 := rfl

/-- The queue at q and the list u have the messages ms, apart from each other; below B nothing has turned. -/
def Inv (B : Nat) (W wr : World) (q : Nat) (ms : List M) (u : Value) : Prop :=
  B = W.heap.size ∧ B ≤ q ∧ Below B W wr ∧ ∃ v, QAt wr q B v ms.length (encMs ms) ∧ Own wr B 26 12 u ms.length (encMs ms) ∧ u.ownBlock ≠ some q ∧ (∀ k, v.ownBlock = some k → u.ownBlock ≠ some k)
theorem Inv.below {B : Nat} {W wr wr' : World} {q : Nat} {ms : List M} {u : Value} (h : Inv B W wr q ms u) (hb : Below wr.heap.size wr wr') : Inv B W wr' q ms u := by
  obtain ⟨h0, h1, h2, v, h3, h4, h5, h6⟩ := h
  exact ⟨h0, h1, h2.trans (hb.mono h3.low), v, h3.below hb, h4.below' hb, h5, h6⟩
theorem Inv.only {B b : Nat} {W wr wr' : World} {q : Nat} {ms : List M} {u : Value} (h : Inv B W wr q ms u) (ho : Only (fun k => k = b) wr wr') (hb : B ≤ b) (h1 : b ≠ q) (h2 : u.ownBlock ≠ some b) (h3 : ∀ v, QAt wr q B v ms.length (encMs ms) → v.ownBlock ≠ some b) : Inv B W wr' q ms u := by
  obtain ⟨a0, a1, a2, v, a3, a4, a5, a6⟩ := h
  exact ⟨a0, a1, a2.trans (ho.below a3.low (fun k hk => by omega)), v, a3.only ho (by omega) (fun k hk hkb => by subst hkb; exact h3 v a3 hk), a4.only ho (fun k hk hkb => by subst hkb; exact h2 hk), a5, a6⟩
theorem Inv.queue {B : Nat} {W wr : World} {q : Nat} {ms : List M} {u : Value} (h : Inv B W wr q ms u) : ∃ v, QAt wr q B v ms.length (encMs ms) := by
  obtain ⟨_, _, _, v, h3, _⟩ := h
  exact ⟨v, h3⟩
theorem Inv.own {B : Nat} {W wr : World} {q : Nat} {ms : List M} {u : Value} (h : Inv B W wr q ms u) : Own wr B 26 12 u ms.length (encMs ms) := by
  obtain ⟨_, _, _, v, _, h4, _⟩ := h
  exact h4
theorem Inv.bel {B : Nat} {W wr : World} {q : Nat} {ms : List M} {u : Value} (h : Inv B W wr q ms u) : Below B W wr := h.2.2.1
/-- What a Push does to it, ahead of the list's own append: the queue has one more. -/
def Half (B : Nat) (W wr : World) (q : Nat) (ms : List M) (m : M) (u : Value) : Prop :=
  B = W.heap.size ∧ B ≤ q ∧ Below B W wr ∧ ∃ v, QAt wr q B v (ms.length + 1) (encMs (ms ++ [m])) ∧ Own wr B 26 12 u ms.length (encMs ms) ∧ u.ownBlock ≠ some q ∧ (∀ k, v.ownBlock = some k → u.ownBlock ≠ some k)
theorem Half.below {B : Nat} {W wr wr' : World} {q : Nat} {ms : List M} {m : M} {u : Value} (h : Half B W wr q ms m u) (hb : Below wr.heap.size wr wr') : Half B W wr' q ms m u := by
  obtain ⟨h0, h1, h2, v, h3, h4, h5, h6⟩ := h
  exact ⟨h0, h1, h2.trans (hb.mono h3.low), v, h3.below hb, h4.below' hb, h5, h6⟩
theorem Half.own {B : Nat} {W wr : World} {q : Nat} {ms : List M} {m : M} {u : Value} (h : Half B W wr q ms m u) : Own wr B 26 12 u ms.length (encMs ms) := by
  obtain ⟨_, _, _, v, _, h4, _⟩ := h
  exact h4
theorem Half.low {B : Nat} {W wr : World} {q : Nat} {ms : List M} {m : M} {u : Value} (h : Half B W wr q ms m u) : B ≤ wr.heap.size := by
  obtain ⟨_, _, _, v, h3, _⟩ := h
  exact h3.low
/-- The list's append makes it whole again. -/
theorem Half.whole {B : Nat} {W wr wr' : World} {q : Nat} {ms : List M} {m : M} {u u' : Value} {g : Nat} (h : Half B W wr q ms m u) (ho : Only (fun k => u.ownBlock = some k) wr wr') (hu : Own wr' B 26 12 u' (ms.length + 1) (encMs ms ++ encM m)) (hg : u'.ownBlock = some g) (hat : u.ownBlock = some g ∨ g = wr.heap.size) :
    Inv B W wr' q (ms ++ [m]) u' := by
  obtain ⟨a0, a1, a2, v, a3, a4, a5, a6⟩ := h
  have e : encMs (ms ++ [m]) = encMs ms ++ encM m := by rw [encMs_app]; simp [encMs]
  refine ⟨a0, a1, a2.trans (ho.below a3.low (fun k hk => (a4.lt k hk).1)), v, ?_, ?_, ?_, ?_⟩
  · have := a3.only ho (fun hq => a5 hq) (fun k hk hu => a6 k hk hu)
    simpa using this
  · rw [e]; simpa using hu
  · rw [hg]
    intro hq
    obtain rfl := Option.some.inj hq
    rcases hat with h | h
    · exact a5 h
    · have := a3.lt; omega
  · intro k hk
    rw [hg]
    intro hq
    obtain rfl := Option.some.inj hq
    rcases hat with h | h
    · exact a6 _ hk h
    · have := (a3.own.lt _ hk).2; omega
theorem Inv.push {B : Nat} {W wr wr' : World} {q : Nat} {ms : List M} {m : M} {u v v' : Value} (h : Inv B W wr q ms u) (hv : QAt wr q B v ms.length (encMs ms)) (hs : ∀ k, v.ownBlock = some k → u.ownBlock ≠ some k)
    (hQ : QAt wr' q B v' (ms.length + 1) (encMs ms ++ encM m)) (ho : Only (fun k => k = q ∨ v.ownBlock = some k) wr wr') (hn : v'.ownBlock = v.ownBlock ∨ ∃ g, v'.ownBlock = some g ∧ wr.heap.size ≤ g) : Half B W wr' q ms m u := by
  obtain ⟨a0, a1, a2, _, _, a4, a5, _⟩ := h
  have e : encMs (ms ++ [m]) = encMs ms ++ encM m := by rw [encMs_app]; simp [encMs]
  refine ⟨a0, a1, a2.trans (ho.below hv.low (fun k hk => by rcases hk with rfl | hk; exact a1; exact (hv.own.lt k hk).1)), v', by rw [e]; exact hQ, a4.only ho (fun k hk hkq => by rcases hkq with rfl | hkq; exact a5 hk; exact hs k hkq hk), a5, fun k hk hu => ?_⟩
  rcases hn with hn | ⟨g, hg, hl⟩
  · exact hs k (by rw [← hn]; exact hk) hu
  · rw [hg] at hk
    obtain rfl := Option.some.inj hk
    have := (a4.lt _ hu).2
    omega
theorem Inv.sep {B : Nat} {W wr : World} {q : Nat} {ms : List M} {u : Value} (h : Inv B W wr q ms u) : ∃ v, QAt wr q B v ms.length (encMs ms) ∧ ∀ k, v.ownBlock = some k → u.ownBlock ≠ some k := by
  obtain ⟨_, _, _, v, h3, _, _, h6⟩ := h
  exact ⟨v, h3, h6⟩
theorem Inv.queue' {B : Nat} {W wr : World} {q N : Nat} {ms : List M} {u : Value} (h : Inv B W wr q ms u) (hn : ms.length = N) : ∃ v, QAt wr q B v N (encMs ms) := by
  subst hn
  exact h.queue
theorem Inv.wipe {B : Nat} {W wr wr' : World} {q : Nat} {ms : List M} {u : Value} (h : Inv B W wr q ms u) (hQ : QAt wr' q B (.slice none 0 0) 0 []) (ho : Only (fun k => k = q) wr wr') : Inv B W wr' q [] (.slice none 0 0) := by
  obtain ⟨a0, a1, a2, v, a3, _⟩ := h
  exact ⟨a0, a1, a2.trans (ho.below a3.low (fun k hk => by omega)), _, hQ, Own.nil _ _ _ _, by simp [Value.ownBlock], by simp [Value.ownBlock]⟩
theorem Inv.boxed {B b : Nat} {W wr w1 w2 : World} {q : Nat} {ms : List M} {u : Value} (h : Inv B W wr q ms u) (hb : Below wr.heap.size wr w1) (ho : Only (fun k => k = b) w1 w2) (hl : wr.heap.size ≤ b) : Inv B W w2 q ms u := by
  obtain ⟨a0, a1, a2, v, a3, a4, a5, a6⟩ := h
  refine ⟨a0, a1, (a2.trans (hb.mono a3.low)).trans (ho.below (Nat.le_trans a3.low hb.size) (fun k hk => by have := a3.low; omega)), v, (a3.below hb).only ho (by have := a3.lt; omega) (fun k hk hkb => by have := (a3.own.lt k hk).2; omega), (a4.below' hb).only ho (fun k hk hkb => by have := (a4.lt k hk).2; omega), a5, a6⟩
/-- A Pop, ahead of the list's own cut: the queue has ms, the list still m and ms. -/
def Popped (B : Nat) (W wr : World) (q : Nat) (m : M) (ms : List M) (u : Value) : Prop :=
  B = W.heap.size ∧ B ≤ q ∧ Below B W wr ∧ ∃ v, QAt wr q B v ms.length (encMs ms) ∧ Own wr B 26 12 u (ms.length + 1) (encMs (m :: ms)) ∧ u.ownBlock ≠ some q ∧ (∀ k, v.ownBlock = some k → u.ownBlock ≠ some k)
theorem Inv.pop {B b : Nat} {W wr wr1 w1 w2 : World} {q : Nat} {m : M} {ms : List M} {u v v' : Value} (h : Inv B W wr q (m :: ms) u) (hb : Below wr.heap.size wr wr1) (hv : QAt wr q B v (m :: ms).length (encMs (m :: ms))) (hs : ∀ k, v.ownBlock = some k → u.ownBlock ≠ some k)
    (hQ : QAt w1 q B v' ms.length (encMs ms)) (ho : Only (fun k => k = q) wr1 w1) (hn : v'.ownBlock = v.ownBlock) (ho2 : Only (fun k => k = b) w1 w2) (hl : wr.heap.size ≤ b) : Popped B W w2 q m ms u := by
  obtain ⟨a0, a1, a2, _, _, a4, a5, _⟩ := h
  have hz := hb.size
  refine ⟨a0, a1, ((a2.trans (hb.mono hv.low)).trans (ho.below (Nat.le_trans hv.low hz) (fun k hk => by omega))).trans (ho2.below hQ.low (fun k hk => by have := hv.low; omega)), v', hQ.only ho2 (by have := hv.lt; omega) (fun k hk hkb => by rw [hn] at hk; have := (hv.own.lt k hk).2; omega), ?_, a5, fun k hk => hs k (by rw [← hn]; exact hk)⟩
  exact ((a4.below' hb).only ho (fun k hk hkq => by subst hkq; exact a5 hk)).only ho2 (fun k hk hkb => by have := (a4.lt k hk).2; omega)
theorem Popped.own {B : Nat} {W wr : World} {q : Nat} {m : M} {ms : List M} {u : Value} (h : Popped B W wr q m ms u) : Own wr B 26 12 u (ms.length + 1) (encMs (m :: ms)) := by
  obtain ⟨_, _, _, v, _, h4, _⟩ := h
  exact h4
theorem Popped.below {B : Nat} {W wr wr' : World} {q : Nat} {m : M} {ms : List M} {u : Value} (h : Popped B W wr q m ms u) (hb : Below wr.heap.size wr wr') : Popped B W wr' q m ms u := by
  obtain ⟨h0, h1, h2, v, h3, h4, h5, h6⟩ := h
  exact ⟨h0, h1, h2.trans (hb.mono h3.low), v, h3.below hb, h4.below' hb, h5, h6⟩
theorem Popped.cut {B : Nat} {W wr : World} {q g o cap : Nat} {m : M} {ms : List M} (h : Popped B W wr q m ms (.slice (some ⟨g, o, none⟩) (ms.length + 1) cap)) :
    (cap = 1 → Inv B W wr q ms (.slice (some ⟨g, o, none⟩) ms.length 0)) ∧ (¬ cap = 1 → Inv B W wr q ms (.slice (some ⟨g, o + 12, none⟩) ms.length (cap - 1))) := by
  obtain ⟨h0, h1, h2, v, h3, h4, h5, h6⟩ := h
  have hc := h4.cut (k := 1) (by omega)
  constructor
  · intro h
    subst h
    exact ⟨h0, h1, h2, v, h3, by simpa [encMs, encM] using hc, h5, h6⟩
  · intro h
    rw [if_neg h] at hc
    exact ⟨h0, h1, h2, v, h3, by simpa [encMs, encM] using hc, h5, h6⟩
theorem Own.cells {w : World} {base : Nat} {e : TypeId} {sz g o n cap : Nat} {xs : List Value} (h : Own w base e sz (.slice (some ⟨g, o, none⟩) n cap) n xs) (h0 : 0 < n) (j : Nat) (u : Value) (hj : xs[j]? = some u) : w.cell? ⟨g, o + j, none⟩ = some u := by
  obtain ⟨g', o', cap', hv, _, _, _, _, hc, _⟩ := h.form h0
  injection hv with h1 h2 h3
  injection h1 with h1
  injection h1 with hg ho
  subst hg; subst ho
  exact hc j u hj
theorem neq_M_self (m : M) (w : World) : (binOp .neq 26 (.agg #[.int .i64 m.k, .int .i64 m.l, .bool m.a, .bool m.b, .int .u64 m.d0, .int .u64 m.d1, .int .u64 m.d2, .int .u64 m.d3, .int .u64 m.d4, .int .u64 m.d5, .int .u64 m.d6, .int .u64 m.d7])
    (.agg #[.int .i64 m.k, .int .i64 m.l, .bool m.a, .bool m.b, .int .u64 m.d0, .int .u64 m.d1, .int .u64 m.d2, .int .u64 m.d3, .int .u64 m.d4, .int .u64 m.d5, .int .u64 m.d6, .int .u64 m.d7])).run Try.prog w = .ok (.bool false) w := by
  rw [run_neq_M w m m, (eqM_iff m m).2 rfl]
  rfl
end Go.Proofs.Ytjkckcmogpipmaa
