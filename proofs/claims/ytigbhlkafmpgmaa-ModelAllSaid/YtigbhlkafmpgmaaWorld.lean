/-
  The map's world, and the functions on it: tell, get, put, op.
-/
import Derived.Test.YtigbhlkafmpgmaaTx
import Derived.Maps.OwnSet
import Derived.Maps.Views
namespace Go.Proofs.Ytigbhlkafmpgmaa
open Go.RowKit Go.Maps
attribute [local go_sem ↓] Go.wp_at_zero Go.wp_at_succ

theorem law3 : Keyed Try.prog 3 := int_keyed Try.underlying3
theorem zero37 (w : World) : (zeroValue 37).run Try.prog w = .ok (.int .u64 0) w := by kernel_rfl
theorem info37 : (Try.prog.info? 37).map (fun i => (i.zero, i.size, i.bytes)) = some (some (.int .u64 0), 1, 8) := by kernel_rfl
theorem Only.of_grown {w w' : World} {q : Nat} (h : w.grownBy w' (some q)) : Only (fun k => k = q) w w' := ⟨h.os, h.tape, h.output, h.size, fun k hk hq => h.block k hk (by simpa using hq)⟩
theorem owns_of_block {w w' : World} {k : TypeId} {R : Value → Option (DataW Unit × List MemPlace)} {q n : Nat} {D : DataW Unit} (h : w.ownsMap Try.prog k R q n D) (hb : w'.heap[q]? = w.heap[q]?) : w'.ownsMap Try.prog k R q n D := by
  obtain ⟨es, clock, he, r⟩ := h
  exact ⟨es, clock, hb.trans he, r⟩
/-- What a map of changes says of the words: cur are the words m with the changes D. -/
structure Chg (D : DataW Unit) (m cur : List Int) : Prop where
  len : cur.length = m.length
  hit : ∀ (i : Nat) c, cur[i]? = some c → Maps.has D (.int .i64 (i : Int)) = true → ∀ z, D.atKey (.int .i64 (i : Int)) z = .lit (.int .u64 c)
  miss : ∀ (i : Nat) c, cur[i]? = some c → Maps.has D (.int .i64 (i : Int)) = false → m[i]? = some c
  keys : ∀ kl, Maps.has D kl = true → ∃ i : Nat, i < m.length ∧ kl = .int .i64 (i : Int)
theorem Chg.start (m : List Int) : Chg (.map []) m m := ⟨rfl, fun (_ : Nat) (_ : Int) _ (h : false = true) => (nomatch h), fun (_ : Nat) (_ : Int) h _ => h, fun _ (h : false = true) => (nomatch h)⟩
theorem Chg.put {D : DataW Unit} {m cur : List Int} (h : Chg D m cur) (hm : IsMap D) (i : Nat) (hi : i < m.length) (hi2 : i ≤ 1000) (v : Int) : Chg (D.put (.int .i64 (i : Int)) (.lit (.int .u64 v))) m (cur.set i v) := by
  have hk : WideAt.IsKeyLit (.int .i64 (i : Int)) := by
    first | trivial | exact WalkArith.wf_i64 ⟨by omega, by omega⟩ | simp [WideAt.IsKeyLit]
  have hne : ∀ j : Nat, j ≠ i → (Lit.int .i64 (j : Int)) ≠ Lit.int .i64 (i : Int) := fun j hj e => by injection e with _ e; exact hj (by omega)
  refine ⟨by rw [List.length_set]; exact h.len, fun j c hc hh z => ?_, fun j c hc hh => ?_, fun kl hkl => ?_⟩
  · by_cases e : j = i
    · subst e
      rw [List.getElem?_set_self (by rw [h.len]; exact hi)] at hc
      injection hc with hc
      subst hc
      exact atKey_put_same hm hk _ _
    · rw [List.getElem?_set_ne (fun e' => e e'.symm)] at hc
      rw [has_put_other (hne j e)] at hh
      rw [atKey_put_other (hne j e)]
      exact h.hit j c hc hh z
  · by_cases e : j = i
    · subst e
      rw [has_put_same hm hk] at hh
      cases hh
    · rw [List.getElem?_set_ne (fun e' => e e'.symm)] at hc
      rw [has_put_other (hne j e)] at hh
      exact h.miss j c hc hh
  · by_cases e : kl = .int .i64 (i : Int)
    · exact ⟨i, hi, e⟩
    · rw [has_put_other e] at hkl
      exact h.keys kl hkl
/-- The world of a run at block p: the words m at vm, the changes in the map at q, what is told at vt. -/
structure WAt (w0 : World) (b1 : Nat) (ob : Obj) (p q : Nat) (vm : Value) (m : List Int) (room : Int) (w : World) (cur : List Int) (n : Nat) (vt : Value) (tells : List Int) (nm : Nat) (D : DataW Unit) : Prop where
  row : w.heap[p]? = some (.cells #[vm, .int .i64 room, .map (some q), .int .i64 n, vt] 56 (0, 0))
  tl : Own w w0.heap.size 37 1 vt tells.length (encU tells)
  mp : w.ownsMap Try.prog 3 (plainElem Try.prog 37) q nm D
  rel : Chg D m cur
  bel : Below w0.heap.size w0 w
  pB : w0.heap.size ≤ p
  qB : w0.heap.size ≤ q
  pq : ¬ p = q
  tp : ∀ k, vt.ownBlock = some k → ¬ k = p ∧ ¬ k = q ∧ ¬ k = b1
  kb : w.heap[b1]? = some ob
  bp : ¬ b1 = p
  bq : ¬ b1 = q
section
variable {w0 : World} {b1 : Nat} {ob : Obj} {p q : Nat} {vm : Value} {m : List Int} {room : Int} {w w' : World} {cur : List Int} {n : Nat} {vt : Value} {tells : List Int} {nm : Nat} {D : DataW Unit}
theorem WAt.plt (h : WAt w0 b1 ob p q vm m room w cur n vt tells nm D) : p < w.heap.size := (Array.getElem?_eq_some_iff.1 h.row).1
theorem WAt.blt (h : WAt w0 b1 ob p q vm m room w cur n vt tells nm D) : b1 < w.heap.size := (Array.getElem?_eq_some_iff.1 h.kb).1
theorem WAt.qlt (h : WAt w0 b1 ob p q vm m room w cur n vt tells nm D) : q < w.heap.size := h.mp.lt
/-- Other blocks are written, new ones made. -/
theorem WAt.only {S : Nat → Prop} (h : WAt w0 b1 ob p q vm m room w cur n vt tells nm D) (ho : Only S w w') (hp : ¬ S p) (hq : ¬ S q) (hb : ¬ S b1) (ht : ∀ k, vt.ownBlock = some k → ¬ S k) (hs : ∀ k, S k → w0.heap.size ≤ k) : WAt w0 b1 ob p q vm m room w' cur n vt tells nm D :=
  ⟨(ho.block p h.plt hp).trans h.row, h.tl.only ho ht, owns_of_block h.mp (ho.block q h.qlt hq), h.rel, h.bel.trans (ho.below h.bel.size hs), h.pB, h.qB, h.pq, h.tp, (ho.block b1 h.blt hb).trans h.kb, h.bp, h.bq⟩
theorem WAt.below (h : WAt w0 b1 ob p q vm m room w cur n vt tells nm D) (hb : Below w.heap.size w w') : WAt w0 b1 ob p q vm m room w' cur n vt tells nm D :=
  ⟨(hb.block p h.plt).trans h.row, h.tl.below' hb, owns_of_block h.mp (hb.block q h.qlt), h.rel, h.bel.trans (hb.mono h.bel.size), h.pB, h.qB, h.pq, h.tp, (hb.block b1 h.blt).trans h.kb, h.bp, h.bq⟩
theorem WAt.cell0 (h : WAt w0 b1 ob p q vm m room w cur n vt tells nm D) : w.cell? ⟨p, 0, none⟩ = some vm := by rw [cell_of_row _ _ _ _ 56 (0, 0) h.row]; rfl
theorem WAt.cell1 (h : WAt w0 b1 ob p q vm m room w cur n vt tells nm D) : w.cell? ⟨p, 1, none⟩ = some (.int .i64 room) := by rw [cell_of_row _ _ _ _ 56 (0, 0) h.row]; rfl
theorem WAt.cell2 (h : WAt w0 b1 ob p q vm m room w cur n vt tells nm D) : w.cell? ⟨p, 2, none⟩ = some (.map (some q)) := by rw [cell_of_row _ _ _ _ 56 (0, 0) h.row]; rfl
theorem WAt.cell3 (h : WAt w0 b1 ob p q vm m room w cur n vt tells nm D) : w.cell? ⟨p, 3, none⟩ = some (.int .i64 n) := by rw [cell_of_row _ _ _ _ 56 (0, 0) h.row]; rfl
theorem WAt.cell4 (h : WAt w0 b1 ob p q vm m room w cur n vt tells nm D) : w.cell? ⟨p, 4, none⟩ = some vt := by rw [cell_of_row _ _ _ _ 56 (0, 0) h.row]; rfl
theorem WAt.count (h : WAt w0 b1 ob p q vm m room w cur n vt tells nm D) : WAt w0 b1 ob p q vm m room (w.setCell ⟨p, 3, none⟩ (.int .i64 ((n : Int) + 1))) cur (n + 1) vt tells nm D := by
  have hO : Only (fun k => k = p) w (w.setCell ⟨p, 3, none⟩ (.int .i64 ((n : Int) + 1))) := (Only.refl _ _).set _ _ (Or.inl rfl)
  have hrow := row_setCells p 56 [.int .i64 ((n : Int) + 1)] 3 w _ h.row (by show 3 + 1 ≤ 5; omega)
  exact ⟨hrow, h.tl.only hO (fun k hk e => (h.tp k hk).1 e), owns_of_block h.mp (hO.block q h.qlt (fun e => h.pq e.symm)), h.rel, h.bel.trans (hO.below h.bel.size (fun k hk => by rw [hk]; exact h.pB)), h.pB, h.qB, h.pq, h.tp, (hO.block b1 h.blt h.bp).trans h.kb, h.bp, h.bq⟩
theorem WAt.stored {i : Nat} {x : Int} {w2 : World} (h : WAt w0 b1 ob p q vm m room w cur n vt tells nm D) (hi : i < m.length) (hi2 : i ≤ 1000) (ho : w2.ownsMap Try.prog 3 (plainElem Try.prog 37) q (nm + 1) (D.put (.int .i64 (i : Int)) (.lit (.int .u64 x)))) (hg : w.grownBy w2 (some q)) : WAt w0 b1 ob p q vm m room w2 (cur.set i x) n vt tells (nm + 1) (D.put (.int .i64 (i : Int)) (.lit (.int .u64 x))) := by
  have hO := Only.of_grown hg
  exact ⟨(hO.block p h.plt h.pq).trans h.row, h.tl.only hO (fun k hk e => (h.tp k hk).2.1 e), ho, h.rel.put h.mp.isMap i hi hi2 x, h.bel.trans (hO.below h.bel.size (fun k hk => by rw [hk]; exact h.qB)), h.pB, h.qB, h.pq, h.tp, (hO.block b1 h.blt h.bq).trans h.kb, h.bp, h.bq⟩
theorem WAt.free (h : WAt w0 b1 ob p q vm m room w cur n vt tells nm D) (o : Nat) : w.frozen? ⟨p, o, none⟩ = false := frozen_of_row _ _ _ _ 56 h.row
end
set_option maxRecDepth 100000 in
set_option maxHeartbeats 8000000 in
theorem tell_any (w0 : World) (b1 : Nat) (ob : Obj) (p q : Nat) (vm : Value) (m : List Int) (room : Int) (w : World) (cur : List Int) (n : Nat) (vt : Value) (tells : List Int) (nm : Nat) (D : DataW Unit) (x : Int)
    (h : WAt w0 b1 ob p q vm m room w cur n vt tells nm D) (hl : tells.length ≤ 1000) :
    Calls Try.prog 19 #[.pointer (some ⟨p, 0, none⟩), .int .u64 x] w fun e w' => e = .returned (.tuple #[]) ∧ ∃ vt', WAt w0 b1 ob p q vm m room w' cur n vt' (tells ++ [x]) nm D := by
  obtain ⟨i0, hi0, hz0, hz1, hz2⟩ := info_parts info37
  obtain ⟨va, vc, rfl, hv1, hv2⟩ := h.tl.any
  obtain ⟨l, hl'⟩ : ∃ l, tells.length = l := ⟨_, rfl⟩
  have ht := h.tl
  rw [hl'] at hl ht hv1
  have HL := Lib.hid hl'
  have H := Lib.hid h
  have c4 := h.cell4
  have f4 := h.free 4
  have hplt := h.plt
  have hpn : ¬ p = w.heap.size := by omega
  rw [hl'] at c4
  have HT := Lib.hid ht
  have hbase := h.bel.size
  have HTP := Lib.hid h.tp
  rw [hl'] at HTP
  have C4A := Lib.hid ((World.cell?_alloc_old w (.cells #[.int .u64 x] 37) ⟨p, 4, none⟩ hpn).trans c4)
  have F4A := Lib.hid (show (w.alloc (.cells #[.int .u64 x] 37)).frozen? ⟨p, 4, none⟩ = false from (World.frozen?_of_block ((Below.al (Below.refl _ w) (.cells #[.int .u64 x] 37)).block p hplt)).trans f4)
  clear h hl' ht
  go_enter Try.func19, Try.ntmps19
  go_wp2_with (at_builtin; refine wpList_append_Own _ rfl _ _ 22 rfl w0.heap.size 37 i0 _ 1 8 Try.underlying22 hi0 hz0 hz1 hz2 rfl (.slice va l vc) l (encU tells) rfl (HT.out.below' (Below.al (Below.refl _ _) _)) ⟨w.heap.size, 0, none⟩ 1 1 [.int .u64 x] rfl rfl (World.news_of_block (cs := #[.int .u64 x]) (t := 37) (fr := (0, 0)) (heap_alloc_new w _)) (by simp [Value.oneCell']) (by omega) (by unfold maxLen; omega) (by omega) (by simp; omega) ?_; intro g' o' cap' w3 hown3 honly3 hat3 hlt3; have c5 := (honly3.cell (p := ⟨p, 4, none⟩) (by simp; omega) (fun h => (HTP.out _ h).1 rfl)).trans C4A.out; have f5 := (honly3.frozen (p := ⟨p, 4, none⟩) (by simp; omega) (fun h => (HTP.out _ h).1 rfl)).trans F4A.out; have HO3 := Lib.hid hown3; have HN3 := Lib.hid honly3; have HA3 := Lib.hid hat3; clear hown3 honly3 hat3)
  go_end0
  have hA := H.out.below (Below.al (Below.refl _ w) (.cells #[.int .u64 x] 37))
  have hp3 : w3.heap[p]? = some (.cells #[vm, .int .i64 room, .map (some q), .int .i64 n, .slice va l vc] 56 (0, 0)) := (HN3.out.block p hA.plt (fun h => (HTP.out _ h).1 rfl)).trans (by have := hA.row; rw [HL.out] at this; exact this)
  have hq3 : w3.heap[q]? = _ := HN3.out.block q hA.qlt (fun h => (HTP.out _ h).2.1 rfl)
  have hB3 : Below w0.heap.size w0 w3 := hA.bel.trans (HN3.out.below hA.bel.size (fun k hk => (HT.out.lt k hk).1))
  have hrow := row_setCells p 56 [.slice (some ⟨g', o', none⟩) (l + 1) cap'] 4 w3 _ hp3 (by show 4 + 1 ≤ 5; omega)
  have hO : Only (fun k => k = p) w3 (w3.setCell ⟨p, 4, none⟩ (.slice (some ⟨g', o', none⟩) (l + 1) cap')) := (Only.refl _ _).set _ _ (Or.inl rfl)
  have hb3' : w3.heap[b1]? = _ := HN3.out.block b1 hA.blt (fun h => (HTP.out _ h).2.2 rfl)
  have hgp : ¬ g' = p ∧ ¬ g' = q ∧ ¬ g' = b1 := by
    rcases HA3.out with h | h
    · exact HTP.out _ h
    · simp at h
      have := hA.plt; have := hA.qlt; have := H.out.plt; have := H.out.qlt; have := H.out.blt
      omega
  have hq3lt : q < w3.heap.size := Nat.lt_of_lt_of_le hA.qlt HN3.out.size
  refine ⟨rfl, .slice (some ⟨g', o', none⟩) (l + 1) cap', hrow, ?_, owns_of_block hA.mp ((hO.block q hq3lt (fun h => H.out.pq h.symm)).trans hq3), H.out.rel, hB3.trans (hO.below hB3.size (fun k hk => by rw [hk]; exact H.out.pB)), H.out.pB, H.out.qB, H.out.pq, fun k hk => ?_, (hO.block b1 (Nat.lt_of_lt_of_le hA.blt HN3.out.size) H.out.bp).trans (hb3'.trans hA.kb), H.out.bp, H.out.bq⟩
  · rw [List.length_append, HL.out, encU_app]
    exact HO3.out.only hO (fun k hk e => by simp [Value.ownBlock] at hk; omega)
  · have hk2 : g' = k := by simpa [Value.ownBlock] using hk
    rw [← hk2]
    exact hgp
set_option maxRecDepth 100000 in
set_option maxHeartbeats 8000000 in
theorem get_any (w0 : World) (b1 : Nat) (ob : Obj) (p q : Nat) (vm : Value) (m : List Int) (room : Int) (w : World) (cur : List Int) (n : Nat) (vt : Value) (tells : List Int) (nm : Nat) (D : DataW Unit) (i : Nat) (c : Int) (hi : i < m.length) (h1000 : m.length ≤ 1000) (hc : cur[i]? = some c) (h : WAt w0 b1 ob p q vm m room w cur n vt tells nm D) (hm : Rds w0 1 vm m.length (encU m)) :
    Calls Try.prog 25 #[.pointer (some ⟨p, 0, none⟩), .int .i64 i] w fun e w' => e = .returned (.int .u64 c) ∧ w' = w := by
  have hkey : keyOf Try.prog 3 (.int .i64 (i : Int)) = some (.int .i64 (i : Int)) := keyOf_int_mk Try.underlying3 (WalkArith.wf_i64 ⟨by omega, by omega⟩)
  have c0 := h.cell0
  have c2 := h.cell2
  have HM := Lib.hid h.mp
  obtain ⟨_, a, cap, rfl, r1, r2, r3, r4⟩ := hm
  obtain ⟨g, o, rfl, hg, hcm⟩ := r4 (by omega)
  cases hh : Maps.has D (.int .i64 (i : Int)) with
  | true =>
    have hhit := h.rel.hit i c hc hh (.lit (.int .u64 0))
    have HH := Lib.hid hh; have HHIT := Lib.hid hhit
    clear h hh hhit hcm r1 r2 r3 r4 hc
    go_enter Try.func25, Try.ntmps25
    go_wp2_with (at_lookup; refine wpList_lookup_own_ok_int (H := Unit) _ rfl _ _ 54 rfl 3 37 .u64 law3 Try.underlying54 Try.underlying37 (zero37 _) q nm D rfl HM.out _ _ rfl hkey ?_; intro c1 hat hwc; rw [HH.out]; obtain rfl : c1 = c := (by have h2 := hat.symm.trans HHIT.out; injection h2 with h2; injection h2))
    go_ret
    exact ⟨rfl, rfl⟩
  | false =>
    have hmi := h.rel.miss i c hc hh
    have y0 : w.cell? ⟨g, o + i, none⟩ = some (.int .u64 c) := (h.bel.cell (p := ⟨g, o + i, none⟩) hg).trans (hcm i _ (encU_get hmi))
    have HH := Lib.hid hh
    have hi1 : (i : Int) < (m.length : Int) := by omega
    have hi0 : (0 : Int) ≤ (i : Int) := by omega
    clear h hh hcm r1 r2 r3 r4 hc hmi
    go_enter Try.func25, Try.ntmps25
    go_wp2_with (at_lookup; refine wpList_lookup_own_ok_int (H := Unit) _ rfl _ _ 54 rfl 3 37 .u64 law3 Try.underlying54 Try.underlying37 (zero37 _) q nm D rfl HM.out _ _ rfl hkey ?_; intro c1 hat hwc; rw [HH.out])
    go_ret
    exact ⟨rfl, rfl⟩
set_option maxRecDepth 100000 in
set_option maxHeartbeats 8000000 in
theorem put_no (w0 : World) (b1 : Nat) (ob : Obj) (p q : Nat) (vm : Value) (m : List Int) (room : Int) (w : World) (cur : List Int) (n : Nat) (vt : Value) (tells : List Int) (nm : Nat) (D : DataW Unit) (i : Nat) (x : Int) (hn : room ≤ n) (h : WAt w0 b1 ob p q vm m room w cur n vt tells nm D) :
    Calls Try.prog 26 #[.pointer (some ⟨p, 0, none⟩), .int .i64 i, .int .u64 x] w fun e w' => e = .returned (.bool false) ∧ WAt w0 b1 ob p q vm m room w' cur n vt tells nm D := by
  have c1 := h.cell1
  have c3 := h.cell3
  have H := Lib.hid h
  clear h
  go_enter Try.func26, Try.ntmps26
  go_wp2_with fail
  go_quiet (fail)
  go_wp2
  go_ret
  exact ⟨rfl, H.out.below (below_drewN (Below.refl _ _) _)⟩
set_option maxRecDepth 100000 in
set_option maxHeartbeats 8000000 in
theorem put_yes (w0 : World) (b1 : Nat) (ob : Obj) (p q : Nat) (vm : Value) (m : List Int) (room : Int) (w : World) (cur : List Int) (n : Nat) (vt : Value) (tells : List Int) (nm : Nat) (D : DataW Unit) (i : Nat) (x : Int) (hn : ¬ room ≤ n) (hroom : room ≤ 1000) (hi : i < m.length) (h1000 : m.length ≤ 1000) (hx : (Lit.int .u64 x).wf = true) (hnm : nm < 1000) (h : WAt w0 b1 ob p q vm m room w cur n vt tells nm D) :
    Calls Try.prog 26 #[.pointer (some ⟨p, 0, none⟩), .int .i64 i, .int .u64 x] w fun e w' => e = .returned (.bool true) ∧ ∃ D', WAt w0 b1 ob p q vm m room w' (cur.set i x) (n + 1) vt tells (nm + 1) D' := by
  have hkey : keyOf Try.prog 3 (.int .i64 (i : Int)) = some (.int .i64 (i : Int)) := keyOf_int_mk Try.underlying3 (WalkArith.wf_i64 ⟨by omega, by omega⟩)
  have c1 := h.cell1
  have c3 := h.cell3
  have H := Lib.hid h
  have hn' : (n : Int) < room := by omega
  clear h hn
  go_enter Try.func26, Try.ntmps26
  go_wp2_with fail
  go_quiet (fail)
  obtain ⟨W1, hW1⟩ : ∃ W1, w.drewN nq = W1 := ⟨_, rfl⟩
  have hA := H.out.below (below_drewN (Below.refl _ w) nq)
  rw [hW1] at hA ⊢
  have HA := Lib.hid hA
  have c3 := hA.cell3
  have f3 := hA.free 3
  have HC := Lib.hid hA.count
  have c2 := hA.count.cell2
  clear hW1 c1 hA
  go_wp2_with (at_mapUpdate; refine wpList_mapUpdate_own (H := Unit) _ rfl _ _ _ 54 rfl 3 37 law3 Try.underlying54 _ q nm D rfl HC.out.mp (by unfold maxLen; omega) _ _ _ rfl rfl hkey _ [] (plainElem_int Try.underlying37 hx) ?_; intro w2 hown2 hgrow2)
  go_ret
  exact ⟨rfl, _, HC.out.stored hi (by omega) hown2 hgrow2⟩
end Go.Proofs.Ytigbhlkafmpgmaa
