import Derived.KernelRfl
import Derived.Test.YtejeghfddnbhaaaTys
import Derived.Test.YtejeghfddnbhaaaKitVB
import Derived.Test.YtejeghfddnbhaaaOfn
namespace Go.Proofs.Ytejeghfddnbhaaa.V
open Go.RowKit Go.Proofs.Ytejeghfddnbhaaa
set_option linter.unusedSimpArgs false
set_option linter.unusedVariables false
section
variable {B : Base} {β : Nat → Option Value} {F : Nat → Prop} {w : World} {st : St}
/-- A block that a call left is a region from now on. -/
theorem Sat.adopt (h : Sat B β F st w) {w' : World} (hb : Below w.heap.size w w') {g : Nat} (hg : w.heap.size ≤ g) {l : List CV} {vs : List Value} {t : TypeId} (hr : w'.heap[g]? = some (.cells vs.toArray t (0, 0))) (hd : DnL β F w' l vs) :
    ∃ β', Ext β F w β' F w' ∧ Sat B β' F ⟨st.nx + 1, (st.nx, .blk l t) :: st.h⟩ w' ∧ β' st.nx = some (.pointer (some ⟨g, 0, none⟩)) := by
  obtain ⟨x1, s1⟩ := h.below hb (F' := F) (fun _ h => h) (fun _ h => .inl h)
  have bx : ∀ id v, β id = some v → (if id = st.nx then some (Value.pointer (some ⟨g, 0, none⟩)) else β id) = some v := by
    intro id v hv
    have : id ≠ st.nx := fun e => by rw [h.fresh id (by omega)] at hv; cases hv
    simp [this, hv]
  have hx : Ext β F w' (fun id => if id = st.nx then some (.pointer (some ⟨g, 0, none⟩)) else β id) F w' := ⟨bx, fun _ h => h, fun _ _ => rfl⟩
  have old : ∀ p ∈ st.h, ∀ k, bk (if p.1 = st.nx then some (Value.pointer (some ⟨g, 0, none⟩)) else β p.1) = some k → bk (β p.1) = some k := by
    intro p hp k hk
    have : p.1 ≠ st.nx := fun e => by
      have hc := h.cks p hp
      cases hq : p.2 with
      | blk cells ty => rw [hq] at hc; obtain ⟨g, vs, h1, _⟩ := hc; rw [h.fresh _ (by omega)] at h1; cases h1
      | own ty a xs => rw [hq] at hc; obtain ⟨v, vs, h1, _⟩ := hc; rw [h.fresh _ (by omega)] at h1; cases h1
    rwa [if_neg this] at hk
  refine ⟨fun id => if id = st.nx then some (.pointer (some ⟨g, 0, none⟩)) else β id, x1.trans hx, ⟨s1.only, fun id hid => ?_, fun p hp => ?_, fun p hp k hk => ?_, ?_, s1.frz, h.f1, h.f2, by have := h.anc.1; dsimp only; omega, fun i hi => ?_⟩, by simp⟩
  · have : id ≠ st.nx := by dsimp only at hid; omega
    simp only [if_neg this]
    exact h.fresh id (by dsimp only at hid; omega)
  · rcases List.mem_cons.1 hp with rfl | hp
    · exact ⟨g, vs, by simp, hr, hd.ext hx⟩
    · have hc := s1.cks p hp
      cases hq : p.2 with
      | blk cells ty =>
        rw [hq] at hc
        obtain ⟨g, vs', h1, h2, h3⟩ := hc
        exact ⟨g, vs', hx.b _ _ h1, h2, h3.ext hx⟩
      | own ty a xs =>
        rw [hq] at hc
        obtain ⟨v, vs', h1, h2, h3⟩ := hc
        exact ⟨v, vs', hx.b _ _ h1, h2, h3.mono hx.f hx.k⟩
  · rcases List.mem_cons.1 hp with rfl | hp
    · simp [bk] at hk
      subst hk
      exact ⟨.inr (Nat.le_trans h.only.size hg), fun hf => by have := h.frz _ hf; omega, (Array.getElem?_eq_some_iff.1 hr).1⟩
    · exact s1.own p hp k (old p hp k hk)
  · refine List.pairwise_cons.2 ⟨fun q hq k hk hk2 => ?_, ?_⟩
    · simp [bk] at hk
      subst hk
      have := (h.own q hq _ (old q hq _ hk2)).2.2
      omega
    · refine h.sep.imp_of_mem fun {p q} hp hq hpq k hk hk2 => hpq k (old p hp k hk) (old q hq k hk2)
  · have : i ≠ st.nx := by have := h.anc.1; omega
    simp only [if_neg this]
    exact h.anc.2 i hi
end
abbrev noLoop : Nat → Option LoopSp := fun _ => none
abbrev vi (z : Int) : CV := .val (.int .i64 z)
abbrev shi : Sh := .int .i64
abbrev shU : Sh := .int .u64
abbrev shW : Sh := .arr 8 .u64
abbrev shC : Sh := .pair shi (.pair shi (.pair shi (.pair shi (.pair shi (.pair shi shi)))))
abbrev shH : Sh := .pair shC (.pair shi shi)
abbrev CN := Int × Int × Int × Int × Int × Int × Int
abbrev HN := CN × Int × Int
abbrev LN := List Int
abbrev pI : PS := (false, .int .i64)
abbrev pU : PS := (false, .int .u64)
abbrev pB : PS := (false, .bool)
abbrev pUs : PS := (false, .sl shU)
abbrev pLs : PS := (false, .sl shW)
abbrev pC : PS := (true, shC)
abbrev pH : PS := (true, shH)
abbrev inl1 (f : Nat) (fn : Func) (L : List (Nat × Spec)) : Nat × Spec := (f, .full (inl Tbl (spL L) fn noLp))
def goodC' (h : CN) : Bool := goodC h.1 h.2.1 h.2.2.1 h.2.2.2.1 h.2.2.2.2.1 h.2.2.2.2.2.1 h.2.2.2.2.2.2
def goodP (h : HN) : Bool := goodH h.1.1 h.1.2.1 h.1.2.2.1 h.1.2.2.2.1 h.1.2.2.2.2.1 h.1.2.2.2.2.2.1 h.1.2.2.2.2.2.2 h.2.1 h.2.2
/-- layout.of: a plan of its own. -/
def ofS (args : List Vl) (st : St) (K : Rs → St → Prop) : Prop := match args with
  | [.agg l] => (match unC shH l with
    | some (h, []) => (goodP h = true → K (.v (.one (.ptr st.nx 0))) ⟨st.nx + 1, (st.nx, .blk [.nm .u32, .nm .i32, .nm .u32, .bl true, vi (h.1.2.2.1 + 1), vi (h.1.2.2.1 + 1 + h.2.1), vi h.2.2, vi (4 * h.2.1)] 62) :: st.h⟩) ∧
        (goodP h = false → K (.v (.one (.ptr st.nx 0))) ⟨st.nx + 1, (st.nx, .blk [.nm .u32, .nm .i32, .nm .u32, .bl false, .any, .any, .any, .any] 62) :: st.h⟩)
    | _ => False)
  | _ => False
theorem goodP_b {h : HN} (hg : goodP h = true) : ((1 ≤ h.1.1 ∧ h.1.1 ≤ 8) ∧ (2 ≤ h.1.2.1 ∧ h.1.2.1 ≤ 64) ∧ 1 ≤ h.1.2.2.1 ∧ h.1.2.2.1 ≤ h.1.2.1 - 1) ∧ (1 ≤ h.2.1 ∧ h.2.1 ≤ 16) ∧ (1 ≤ h.2.2 ∧ h.2.2 ≤ 16) ∧ h.1.2.2.1 + 1 + h.2.1 + h.2.2 ≤ h.1.2.1 := by
  unfold goodP goodH goodC at hg
  rw [Bool.and_eq_true] at hg
  obtain ⟨h1, h2⟩ := hg
  have h1 := of_decide_eq_true h1
  have h2 := of_decide_eq_true h2
  omega
theorem v29 : Valid Try.prog 29 (.full ofS) := by
  refine ⟨call29, fun args st K hS B β F w vs hw hd => ?_⟩
  unfold ofS at hS
  split at hS
  case h_2 => exact hS.elim
  rename_i l
  split at hS
  case h_2 => exact hS.elim
  rename_i h hu
  obtain ⟨u, r, rfl, ⟨us, rfl, hd⟩, hr⟩ := hd
  obtain rfl : r = [] := hr
  obtain ⟨l1, l2, rfl, h1, h2⟩ := unC_ok hu hd
  obtain rfl : l2 = [] := h2
  obtain ⟨⟨a, b, c, d, e, f, g⟩, p, q⟩ := h
  obtain ⟨m1, m2, rfl, ⟨_, _, rfl, ⟨rfl, r1⟩, _, _, rfl, ⟨rfl, r2⟩, _, _, rfl, ⟨rfl, r3⟩, _, _, rfl, ⟨rfl, r4⟩, _, _, rfl, ⟨rfl, r5⟩, _, _, rfl, ⟨rfl, r6⟩, rfl, r7⟩, _, _, rfl, ⟨rfl, r8⟩, rfl, r9⟩ := h1
  refine (of_new a b c d e f g p q w).mono ?_
  rintro E w' ⟨B0, rfl, hB, hb, x1, x2, x3, hx, hrow⟩
  cases hG : goodP ((a, b, c, d, e, f, g), p, q) with
  | true =>
    have hx := hx hG
    have hbd := goodP_b hG
    obtain ⟨⟨g1, g2, g3, g4⟩, g5, g6, g7⟩ := hbd
    dsimp only at g1 g2 g3 g4 g5 g6 g7
    rw [show goodH a b c d e f g p q = true from hG] at hrow
    obtain ⟨rfl, rfl, rfl⟩ := hx
    obtain ⟨β', k1, k2, k3⟩ := Sat.adopt hw hb hB (l := [.nm .u32, .nm .i32, .nm .u32, .bl true, vi (c + 1), vi (c + 1 + p), vi q, vi (4 * p)]) (vs := [.int .u32 1, .int .i32 0, .int .u32 0, .bool true, .int .i64 (c + 1), .int .i64 (c + 1 + p), .int .i64 q, .int .i64 (4 * p)]) hrow
      ⟨_, _, rfl, ⟨_, rfl, ⟨1, rfl, by decide⟩, rfl⟩, _, _, rfl, ⟨_, rfl, ⟨0, rfl, by decide⟩, rfl⟩, _, _, rfl, ⟨_, rfl, ⟨0, rfl, by decide⟩, rfl⟩, _, _, rfl, ⟨_, rfl, rfl, rfl⟩, _, _, rfl, ⟨_, rfl, ⟨rfl, by simp only [vOk, inR]; omega⟩, rfl⟩, _, _, rfl, ⟨_, rfl, ⟨rfl, by simp only [vOk, inR]; omega⟩, rfl⟩, _, _, rfl, ⟨_, rfl, ⟨rfl, by simp only [vOk, inR]; omega⟩, rfl⟩, _, _, rfl, ⟨_, rfl, ⟨rfl, by simp only [vOk, inR]; omega⟩, rfl⟩, rfl⟩
    exact ⟨_, _, _, β', F, rfl, hS.1 hG, k1, k2, _, k3, rfl⟩
  | false =>
    rw [show goodH a b c d e f g p q = false from hG] at hrow
    obtain ⟨β', k1, k2, k3⟩ := Sat.adopt hw hb hB (l := [.nm .u32, .nm .i32, .nm .u32, .bl false, .any, .any, .any, .any]) (vs := [.int .u32 1, .int .i32 0, .int .u32 0, .bool false, .int .i64 x1, .int .i64 x2, .int .i64 q, .int .i64 x3]) hrow
      ⟨_, _, rfl, ⟨_, rfl, ⟨1, rfl, by decide⟩, rfl⟩, _, _, rfl, ⟨_, rfl, ⟨0, rfl, by decide⟩, rfl⟩, _, _, rfl, ⟨_, rfl, ⟨0, rfl, by decide⟩, rfl⟩, _, _, rfl, ⟨_, rfl, rfl, rfl⟩, _, _, rfl, ⟨_, rfl, trivial, rfl⟩, _, _, rfl, ⟨_, rfl, trivial, rfl⟩, _, _, rfl, ⟨_, rfl, trivial, rfl⟩, _, _, rfl, ⟨_, rfl, trivial, rfl⟩, rfl⟩
    exact ⟨_, _, _, β', F, rfl, hS.2 hG, k1, k2, _, k3, rfl⟩
end Go.Proofs.Ytejeghfddnbhaaa.V
