import Derived.Test.YtgaiedcmohpiaaaTys
import Derived.Test.YtgaiedcmohpiaaaKitVA
import Derived.WalkKit
import Derived.OwnWalkIn
import Derived.TacticsInMore
import Derived.LoopNIn
import Derived.LoopIn
namespace Go.Proofs.Ytgaiedcmohpiaaa
open Go.RowKit Go.Proofs.Ytgaiedcmohpiaaa.V
attribute [local go_sem] Oper.semAt_some
set_option maxRecDepth 100000 in
set_option maxHeartbeats 2000000 in
theorem back44 (n l g : Nat) (gg oo cap : Nat) (cells : List (List Value)) (hcap : cells.length ≤ cap) (hmax : cap ≤ maxLen) (J Jx : List {i : Nat // i < cells.length} → World → Prop) (K : Nat → Prop) (hKg : K g) (hKb : K gg)
    (hY : ∀ pre x W, J pre W → pre.length < cells.length → YieldAt Fence.wide (n - 1) Try.prog l (bkEnc cells x) W fun e W' =>
      (e = .returned (.bool true) ∧ J (pre ++ [x]) W' ∧ ∀ k, K k → W'.heap[k]? = W.heap[k]?) ∨ (e = .returned (.bool false) ∧ Jx (pre ++ [x]) W'))
    (W : World) (hBs : W.cell? ⟨g, 0, none⟩ = some (.slice (some ⟨gg, oo, none⟩) cells.length cap)) (hc : ∀ i cs, cells[i]? = some cs → cs.length = 9 ∧ W.rangeAt gg (oo + i * 9) cs) (h0 : J [] W) :
    CallsIn Fence.wide n Try.prog 44 #[.func (.yield l) #[] #[], .pointer (some ⟨g, 0, none⟩)] W fun e W' => (∃ v, e = .returned v) ∧
      ((∃ xs, xs.map (·.1) = downN cells.length ∧ J xs W') ∨ (∃ pre, pre.map (·.1) <+: downN cells.length ∧ Jx pre W')) := by
  obtain ⟨len, hlen⟩ : ∃ len, cells.length = len := ⟨_, rfl⟩
  refine callsIn_of_wp Try.func44 rfl trivial ?_
  rw [hlen] at hBs
  simp only [show Try.f44.ntmps = 19 from rfl, List.size_toArray, List.length_cons, List.length_nil, Nat.reduceAdd, Nat.reduceSub, Array.replicate_succ, Array.replicate_zero, List.push_toArray, List.append_toArray, List.nil_append, List.cons_append]
  gi_wp2
  gi_loopw [3] (fun i wr => ∃ (k : Nat) (pre : List {i : Nat // i < cells.length}), k ≤ len ∧ i = .int .i64 ((k : Int) - 1) ∧ pre.map (·.1) ++ downN k = downN len ∧ J pre wr ∧ ∀ k, K k → wr.heap[k]? = W.heap[k]?)
    (fun i _ => (intOf i + 1).toNat)
  case atStart => exact ⟨len, [], Nat.le_refl _, by have : maxLen = 9223372036854775807 := rfl; simp [wrap64]; omega, rfl, h0, fun _ _ => rfl⟩
  case round =>
    obtain ⟨k, pre, hk, rfl, hpre, hJ, hKW⟩ := hrel
    cases k with
    | zero =>
      gi_wp2
      go_end0
      exact ⟨⟨_, rfl⟩, .inl ⟨pre, by rw [show downN cells.length = downN len by rw [hlen], ← hpre]; simp [downN], hJ⟩⟩
    | succ k =>
      have hcs := hc k (cells[k]'(by omega)) (List.getElem?_eq_getElem (by omega))
      obtain ⟨cs, hcsE⟩ : ∃ cs, cells[k]'(by omega) = cs := ⟨_, rfl⟩
      rw [hcsE] at hcs
      obtain ⟨c0, c1, c2, c3, c4, c5, c6, c7, c8, rfl⟩ : ∃ c0 c1 c2 c3 c4 c5 c6 c7 c8, cs = [c0, c1, c2, c3, c4, c5, c6, c7, c8] := by
        match cs, hcs.1 with
        | [c0, c1, c2, c3, c4, c5, c6, c7, c8], _ => exact ⟨_, _, _, _, _, _, _, _, _, rfl⟩
      have hB2 : wr.cell? ⟨g, 0, none⟩ = some (.slice (some ⟨gg, oo, none⟩) len cap) := (World.cell?_of_block (hKW g hKg)).trans hBs
      have hplen : pre.length < cells.length := by
        have := congrArg List.length hpre
        simp only [List.length_append, List.length_map, downN_len] at this
        omega
      have hce : ∀ j u, [c0, c1, c2, c3, c4, c5, c6, c7, c8][j]? = some u → wr.cell? ⟨gg, oo + k * 9 + j, none⟩ = some u := fun j u hu => (World.cell?_of_block (hKW gg hKb)).trans (hcs.2 j u hu)
      have e0 : wr.cell? ⟨gg, oo + k * 9, none⟩ = some c0 := hce 0 c0 rfl
      have e1 := hce 1 c1 rfl
      have e2 := hce 2 c2 rfl
      have e3 := hce 3 c3 rfl
      have e4 := hce 4 c4 rfl
      have e5 := hce 5 c5 rfl
      have e6 := hce 6 c6 rfl
      have e7 := hce 7 c7 rfl
      have e8 := hce 8 c8 rfl
      clear hce hcs
      have hmk : k < cells.length := by omega
      have henc : bkEnc cells ⟨k, hmk⟩ = #[.int .i64 (k : Int), .agg #[c0, c1, c2, c3, c4, c5, c6, c7, c8]] := by
        unfold bkEnc
        rw [List.getD, List.getElem?_eq_getElem hmk, hcsE]
        rfl
      obtain ⟨fn, tmps, assign, body, hy, hR⟩ := hY pre ⟨k, hmk⟩ wr hJ hplen
      rw [henc] at hy
      clear henc hcsE hY hc
      have hin : ((k + 1 : Nat) : Int) - 1 = (k : Int) := by omega
      rw [hin]
      gi_wp2
      refine ⟨fun e => by simp [Fence.wide] at e, hR.mono ?_⟩
      rintro e W3 (⟨rfl, hJ3, hk3⟩ | ⟨rfl, hJx3⟩)
      · gi_wp2
        go_roundw
        case rel => exact ⟨k, pre ++ [⟨k, hmk⟩], by omega, by have : maxLen = 9223372036854775807 := rfl; simp [intOf, wrap64]; omega, by rw [← hpre]; simp [downN], hJ3, fun j hj => (hk3 j hj).trans (hKW j hj)⟩
        case measure => have : maxLen = 9223372036854775807 := rfl; simp [intOf, wrap64]; omega
      · gi_wp2
        refine bodyPost_ret (results_none rfl _ _ _) rfl ?_
        exact ⟨⟨_, rfl⟩, .inr ⟨_, ⟨downN k, by rw [show downN cells.length = downN len by rw [hlen], ← hpre]; simp [downN]⟩, hJx3⟩⟩
set_option maxRecDepth 100000 in
set_option maxHeartbeats 2000000 in
theorem back44_nil (n l g : Nat) (ad : Option Addr) (cap : Nat) (J : List {i : Nat // i < 0} → World → Prop)
    (W : World) (hBs : W.cell? ⟨g, 0, none⟩ = some (.slice ad 0 cap)) (h0 : J [] W) :
    CallsIn Fence.wide n Try.prog 44 #[.func (.yield l) #[] #[], .pointer (some ⟨g, 0, none⟩)] W fun e W' => (∃ v, e = .returned v) ∧ J [] W' := by
  refine callsIn_of_wp Try.func44 rfl trivial ?_
  simp only [show Try.f44.ntmps = 19 from rfl, List.size_toArray, List.length_cons, List.length_nil, Nat.reduceAdd, Nat.reduceSub, Array.replicate_succ, Array.replicate_zero, List.push_toArray, List.append_toArray, List.nil_append, List.cons_append]
  gi_wp2
  gi_loopw [3] (fun i wr => i = .int .i64 (-1) ∧ J [] wr) (fun i _ => 0)
  case atStart => exact ⟨by simp [wrap64], h0⟩
  case round =>
    obtain ⟨rfl, hJ⟩ := hrel
    gi_wp2
    go_end0
    exact ⟨⟨_, rfl⟩, hJ⟩
theorem it44 : IterOk Try.prog 44 9 := by
  refine ⟨call44, fun n g v cells w K hg hv hB hKg hKb l J Jx W hW _ _ hY h0 => ?_⟩
  obtain ⟨ad, cap, rfl, h1, h2, h3⟩ := hB
  have hv' := (hW.cell (p := ⟨g, 0, none⟩) hg).trans hv
  rcases Nat.eq_zero_or_pos cells.length with hz | hz
  · obtain rfl : cells = [] := List.eq_nil_of_length_eq_zero hz
    refine (back44_nil n l g ad cap J W hv' h0).mono fun e W' h => ⟨h.1, .inl ⟨[], rfl, h.2⟩⟩
  · obtain ⟨_, gg, oo, rfl, hgg, _⟩ := h3 0 _ (List.getElem?_eq_getElem hz)
    refine back44 n l g gg oo cap cells h1 h2 J Jx K hKg (hKb gg hz rfl) hY W hv' (fun i cs hcs => ?_) h0
    obtain ⟨e1, g', o', e2, e3, e4⟩ := h3 i cs hcs
    cases e2
    exact ⟨e1, fun j u hu => (hW.cell (p := ⟨gg, oo + i * 9 + j, none⟩) hgg).trans (e4 j u hu)⟩
end Go.Proofs.Ytgaiedcmohpiaaa
