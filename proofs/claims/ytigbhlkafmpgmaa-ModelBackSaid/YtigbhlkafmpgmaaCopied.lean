/-
  Copied: transactions of their own.
-/
import Derived.Test.YtigbhlkafmpgmaaWakes
import Derived.Deep.RegionLaw
namespace Go.Proofs.Ytigbhlkafmpgmaa
open Go.RowKit Go.Maps
attribute [local go_sem ↓] Go.wp_at_zero Go.wp_at_succ
theorem step_copy_new {P : Program} {ops : Array Oper} {o : Oper} {a : Act} {K : Act → World → Prop} {Q : Exit → Act → World → Prop} {E : Prop} (hgd : o.guard = none) (s x : Operand) (t : TypeId)
    (ho : o.op = .call { callee := .builtin .append, args := #[s, x], argTypes := #[t, t] })
    (e : TypeId) (i : TypeInfo) (z : Value) (size bytes : Nat) (ht : P.underlying t = some (.slice e)) (hi : P.info? e = some i) (hz : i.zero = some z)
    (hsize : i.size = size) (hby : i.bytes = bytes) (hzs : z.cells.size = size) (w : World) (hs : a.eval s = .slice (some ⟨w.heap.size, 0, none⟩) 0 0)
    (vx : Value) (m : Nat) (news : List Value) (hx : a.eval x = vx) (hr : Rds w size vx m news) (h1 : ∀ u ∈ news, u.oneCell' = true) (h63 : m ≤ maxLen) (hb : m * bytes ≤ 140737488355328)
    (h : ∀ v' w', Own w' w.heap.size e size v' m news → Below w.heap.size w w' → K (a.put o.dst v') w') :
    if Region.wanted o (yielded ops a.tmps) = true then Oper.wp P o a (w.alloc (.cells #[] e)) K Q else E := by
  have hw : Region.wanted o (yielded ops a.tmps) = true := by simp [Region.wanted, hgd]
  rw [if_pos hw]
  exact wp_copy_new s x t ho e i z size bytes ht hi hz hsize hby hzs w hs vx m news hx hr h1 h63 hb h
/-- A transaction: its slice's header, its Ops, whether it is taken back. -/
structure Th where
  a : Option Addr
  c : Nat
  ops : List Op
  ab : Bool
def encT (t : Th) : List Value := [.slice t.a t.ops.length t.c, .bool t.ab]
theorem encT_len (t : Th) : (encT t).length = 2 := rfl
def encTs (l : List Th) : List Value := encL encT l
theorem encTs_len (l : List Th) : (encTs l).length = l.length * 2 := encL_len encT_len l
theorem encTs_get (l : List Th) (i : Nat) (t : Th) (h : l[i]? = some t) (j : Nat) (hj : j < 2) : (encTs l)[i * 2 + j]? = (encT t)[j]? := encL_get encT_len l i t h j hj
theorem encTs_app (l : List Th) (t : Th) : encTs (l ++ [t]) = encTs l ++ encT t := by
  unfold encTs
  induction l with
  | nil => simp [encL]
  | cons x r ih => simp only [List.cons_append, encL, ih, List.append_assoc]
theorem encT_one (t : Th) : ∀ u ∈ encT t, u.oneCell' = true := by
  intro u hu
  simp [encT] at hu
  rcases hu with rfl | rfl <;> rfl
theorem info25 : (Try.prog.info? 25).map (fun i => (i.zero, i.size, i.bytes)) = some (some (.agg #[.slice none 0 0, .bool false]), 2, 32) := by kernel_rfl
theorem info39 : (Try.prog.info? 39).map (fun i => (i.zero, i.size, i.bytes)) = some (some (.agg #[.int .i64 0, .int .i64 0, .int .u64 0]), 3, 24) := by kernel_rfl
/-- Each transaction's Ops can be read. -/
def OpsAt (w : World) (l : List Th) : Prop := ∀ t ∈ l, Rds w 3 (.slice t.a t.ops.length t.c) t.ops.length (encOs t.ops)
theorem OpsAt.below {w w' : World} {l : List Th} (h : OpsAt w l) (hb : Below w.heap.size w w') : OpsAt w' l := fun t ht => (h t ht).below hb
theorem Rds.only' {S : Nat → Prop} {w w' : World} {sz : Nat} {v : Value} {n : Nat} {xs : List Value} (h : Rds w sz v n xs) (ho : Only S w w') (hs : 0 < n → ∀ b c, v = .slice (some b) n c → ¬ S b.block) : Rds w' sz v n xs := by
  obtain ⟨h1, a, cap, h2, h3, h4, h5, h6⟩ := h
  refine ⟨h1, a, cap, h2, h3, h4, h5, fun h0 => ?_⟩
  obtain ⟨g, o, e, hg, hc⟩ := h6 h0
  exact ⟨g, o, e, Nat.lt_of_lt_of_le hg ho.size, fun j u hu => (ho.cell (p := ⟨g, o + j, none⟩) hg (hs h0 ⟨g, o, none⟩ cap (by rw [h2, e]))).trans (hc j u hu)⟩
theorem Rds.blt {w : World} {sz : Nat} {n : Nat} {xs : List Value} {b : Addr} {c : Nat} (h : Rds w sz (.slice (some b) n c) n xs) (h0 : 0 < n) : b.block < w.heap.size := by
  obtain ⟨h1, a, cap, h2, h3, h4, h5, h6⟩ := h
  obtain ⟨g, o, e, hg, hc⟩ := h6 h0
  injection h2 with e1 _ _
  rw [e] at e1
  injection e1 with e1
  rw [e1]
  exact hg
/-- The copies lie apart from the list that is growing. -/
def Apart (l : Value) (hs : List Th) : Prop := ∀ k, l.ownBlock = some k → ∀ t ∈ hs, 0 < t.ops.length → ∀ b, t.a = some b → ¬ b.block = k
theorem copied_step {w wr w2 w3 : World} {la : Option Addr} {lc j : Nat} {hs' : List Th} {a2 : Option Addr} {c2 L : Nat} {ops : List Op} {ab : Bool} {g' o' cap' : Nat} {ob : Obj} (hOA : OpsAt wr hs') (hD : Apart (.slice la j lc) hs') (hO : Own wr w.heap.size 25 2 (.slice la j lc) j (encTs hs'))
    (hL : ops.length = L) (hO2 : Own w2 wr.heap.size 39 3 (.slice a2 L c2) L (encOs ops)) (hB2 : Below wr.heap.size wr w2) (ho3 : Only (fun k => (Value.slice la j lc).ownBlock = some k) (w2.alloc ob) w3) (hat : (Value.slice la j lc).ownBlock = some g' ∨ g' = (w2.alloc ob).heap.size) :
    OpsAt w3 (hs' ++ [⟨a2, c2, ops, ab⟩]) ∧ Apart (.slice (some ⟨g', o', none⟩) (j + 1) cap') (hs' ++ [⟨a2, c2, ops, ab⟩]) := by
  subst hL
  have hlo : ∀ k, (Value.slice la j lc).ownBlock = some k → k < wr.heap.size := fun k hk => (hO.lt k hk).2
  have hb : Below w2.heap.size w2 (w2.alloc ob) := Below.al (Below.refl _ _) _
  have hnew : ∀ b, 0 < ops.length → a2 = some b → wr.heap.size ≤ b.block ∧ b.block < w2.heap.size := fun b h0 e => by
    have := hO2.lt b.block (by rw [e]; rfl)
    exact this
  refine ⟨fun t ht => ?_, fun k hk t ht h0 b hb2 => ?_⟩
  · rcases List.mem_append.1 ht with h | h
    · refine Rds.only' (((hOA t h).below hB2).below hb) ho3 (fun h0 b c e hk => ?_)
      injection e with e1 _ _
      exact hD _ hk t h h0 b e1 rfl
    · simp at h
      subst h
      refine Rds.only' (hO2.rds.below hb) ho3 (fun h0 b c e hk => ?_)
      injection e with e1 _ _
      have := hnew b h0 e1
      have := hlo _ hk
      omega
  · have hk2 : g' = k := by simpa [Value.ownBlock] using hk
    subst hk2
    intro e
    rcases List.mem_append.1 ht with h | h
    · rcases hat with h2 | h2
      · exact hD _ h2 t h h0 b hb2 e
      · have h3 := hOA t h
        rw [hb2] at h3
        have := h3.blt h0
        have := hB2.size
        simp at h2
        omega
    · simp at h
      subst h
      have := hnew b h0 hb2
      rcases hat with h2 | h2
      · have := hlo _ h2
        omega
      · simp at h2
        omega
set_option maxRecDepth 100000 in
set_option maxHeartbeats 8000000 in
theorem copied_any (v : Value) (hs : List Th) (w : World) (hr : Rds w 2 v hs.length (encTs hs)) (hops : OpsAt w hs) (hl : hs.length ≤ 1000) (hn : ∀ t ∈ hs, t.ops.length ≤ 1000) :
    Calls Try.prog 10 #[v] w fun e w' => ∃ v' hs', e = .returned v' ∧ Own w' w.heap.size 25 2 v' hs'.length (encTs hs') ∧ hs'.map (fun t => (t.ops, t.ab)) = hs.map (fun t => (t.ops, t.ab)) ∧ OpsAt w' hs' ∧ Below w.heap.size w w' := by
  obtain ⟨_, va, cv, rfl, p2, p3, p4, p5⟩ := hr
  obtain ⟨i5, hi5, hz50, hz51, hz52⟩ := info_parts info25
  obtain ⟨i9, hi9, hz90, hz91, hz92⟩ := info_parts info39
  obtain ⟨n, hnl⟩ : ∃ n, hs.length = n := ⟨_, rfl⟩
  have HNL := Lib.hid hnl
  rw [hnl] at p2 p4 p5 hl ⊢
  have P5 := Lib.hid p5; have HOPS := Lib.hid hops; have HN := Lib.hid hn
  clear p4 p5 hops hn hnl
  go_enter Try.func10, Try.ntmps10
  go_wp2_with fail
  go_loopw [3, 4] (fun l i w' => ∃ j : Nat, j ≤ n ∧ i = .int .i64 j ∧ ∃ hs', hs'.length = j ∧ Own w' w.heap.size 25 2 l j (encTs hs') ∧ hs'.map (fun t => (t.ops, t.ab)) = (hs.take j).map (fun t => (t.ops, t.ab)) ∧ OpsAt w' hs' ∧ Apart l hs' ∧ Below w.heap.size w w') (fun _ i _ => n - (intOf i).toNat)
  case atStart => exact ⟨0, by omega, rfl, [], rfl, Own.nil _ _ _ _, by simp, fun t ht => (by cases ht), fun k hk => (by cases hk), Below.refl _ _⟩
  case round =>
  obtain ⟨j, hj, rfl, hs', hlen', hO, hmap, hOA, hdis, hB⟩ := hrel
  obtain ⟨la, lc, rfl, hv1, hv2⟩ := hO.any
  have HO := Lib.hid hO; have HMAP := Lib.hid hmap; have HOA := Lib.hid hOA; have HDIS := Lib.hid hdis; have HB := Lib.hid hB; have HLEN := Lib.hid hlen'
  clear hO hmap hOA hdis hlen'
  by_cases hlt : j < n
  · obtain ⟨⟨ta, tc, ops, ab⟩, ht⟩ : ∃ t, hs[j]? = some t := ⟨_, List.getElem?_eq_getElem (by rw [HNL.out]; exact hlt)⟩
    have hmem := List.mem_of_getElem? ht
    have hro : Rds w 3 (.slice ta ops.length tc) ops.length (encOs ops) := HOPS.out _ hmem
    have hol : ops.length ≤ 1000 := HN.out _ hmem
    obtain ⟨g, o, rfl, hg1, ca⟩ := P5.out (by omega)
    have x0 : wr.cell? ⟨g, o + j * 2, none⟩ = some (.slice ta ops.length tc) := (hB.cell (p := ⟨g, o + j * 2, none⟩) hg1).trans (by have := ca (j * 2 + 0) _ ((encTs_get hs j _ ht 0 (by omega)).trans rfl); simpa using this)
    have x1 : wr.cell? ⟨g, o + j * 2 + 1, none⟩ = some (.bool ab) := (hB.cell (p := ⟨g, o + j * 2 + 1, none⟩) hg1).trans (by rw [Nat.add_assoc]; exact ca (j * 2 + 1) _ ((encTs_get hs j _ ht 1 (by omega)).trans rfl))
    have HRO := Lib.hid (show Rds wr.drew 3 (.slice ta ops.length tc) ops.length (encOs ops) from (hro.below hB).below (Below.drew (Below.refl _ _)))
    obtain ⟨L, hL⟩ : ∃ L, ops.length = L := ⟨_, rfl⟩
    have HL := Lib.hid hL
    rw [hL] at x0 HRO hol
    have HT := Lib.hid ht
    have hj0 : (0 : Int) ≤ (j : Int) := by omega
    have hj1 : (j : Int) < (n : Int) := by omega
    have hgw : g < wr.heap.size := by have := hB.size; omega
    have hgn : ¬ g = wr.heap.size := by omega
    have hwz := hB.size
    clear hmem hro ca hB ht hL
    go_wp2_with fail
    go_region_law (first | (refine step_copy_new (P := Try.prog) (by rfl) _ _ 23 (by rfl) 39 i9 _ 3 24 Try.underlying23 hi9 hz90 hz91 hz92 rfl (World.drew wr) (by rfl) (.slice ta L tc) L (encOs ops) (by rfl) HRO.out (encOs_one ops) (by unfold maxLen; omega) (by omega) ?_; intro v2 w2 hown2 hb2; obtain ⟨a2, c2, rfl, _, _⟩ := hown2.any; have z0 := (hb2.cell (p := ⟨g, o + j * 2, none⟩) hgw).trans x0; have z1 := (hb2.cell (p := ⟨g, o + j * 2 + 1, none⟩) hgw).trans x1; have hgn2 : ¬ g = w2.heap.size := (by have := hb2.size; simp at this; omega); have hg2 : g < w2.heap.size := (by have := hb2.size; simp at this; omega); have HO2 := Lib.hid hown2; have HB2 := Lib.hid ((Below.drew (Below.refl wr.heap.size wr)).trans (show Below wr.heap.size wr.drew w2 from hb2)); have hw2z : w.heap.size ≤ w2.heap.size := (by have := hb2.size; simp at this; omega); clear hown2 hb2) | (refine step_append_Own _ rfl _ _ 30 (by rfl) w.heap.size 25 i5 _ 2 32 Try.underlying30 hi5 hz50 hz51 hz52 rfl (.slice la j lc) j (encTs hs') (by rfl) (by exact (HO.out.below' HB2.out).below' (Below.al (Below.refl _ _) _)) ⟨w2.heap.size, 0, none⟩ 1 1 [.slice a2 L c2, .bool ab] (by rfl) (by rfl) (World.news_of_block (cs := #[.slice a2 L c2, .bool ab]) (t := 25) (fr := (0, 0)) (heap_alloc_new w2 _)) (by simp [Value.oneCell']) (by omega) (by unfold maxLen; omega) (by omega) (by simp; omega) ?_; intro g' o' cap' w3 hown3 honly3 hat3 hlt3))
    all_goals
      have HST := Lib.hid (copied_step (ab := ab) (o' := o') (cap' := cap') HOA.out HDIS.out HO.out HL.out HO2.out HB2.out honly3 hat3)
      have HO3 := Lib.hid hown3
      have HB3 := Lib.hid ((HB.out.trans (HB2.out.mono hwz)).trans ((Below.al (Below.refl _ _) _ : Below w2.heap.size w2 _).mono hw2z |>.trans (honly3.below (by simp; omega) (fun k hk => (HO.out.lt k hk).1))))
      clear hown3 honly3 hat3 hlt3 x0 x1 z0 z1
      go_wp2
      go_roundw
      case rel => exact ⟨j + 1, by omega, by go_num, hs' ++ [⟨a2, c2, ops, ab⟩], by rw [List.length_append, HLEN.out]; rfl, by rw [encTs_app]; have := HO3.out; rw [← HL.out] at this; exact this, by rw [List.map_append, HMAP.out, List.take_add_one, HT.out]; simp, HST.out.1, HST.out.2, HB3.out⟩
      case measure => simp [intOf]; omega
  · obtain rfl : j = n := by omega
    go_wp2
    go_ret
    refine ⟨_, hs', rfl, by rw [HLEN.out]; exact HO.out, ?_, HOA.out, HB.out⟩
    rw [HMAP.out, List.take_of_length_le (by rw [HNL.out]; omega)]
end Go.Proofs.Ytigbhlkafmpgmaa
