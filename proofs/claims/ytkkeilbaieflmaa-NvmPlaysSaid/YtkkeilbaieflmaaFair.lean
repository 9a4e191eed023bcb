/-
  The steps of a memory's play: are they few enough?
-/
import Derived.Test.YtkkeilbaieflmaaWakes
import Derived.Test.YtkkeilbaieflmaaKitE
namespace Go.Proofs.Ytkkeilbaieflmaa
open Go.RowKit
attribute [local go_sem ↓] Go.wp_at_zero Go.wp_at_succ

theorem encL_lns : ∀ ls : List Ln, encL encLn ls = encLns ls
  | [] => rfl
  | l :: ls => by simp only [encL, encLns, encL_lns ls]
/-- A step: a kind, a line's number, a line, an image. -/
structure Stp where
  kind : Int
  line : Int
  l : Ln
  img : Value
def encStp (s : Stp) : List Value := [.int .i64 s.kind, .int .i64 s.line, .int .u64 s.l.d0, .int .u64 s.l.d1, .int .u64 s.l.d2, .int .u64 s.l.d3, .int .u64 s.l.d4, .int .u64 s.l.d5, .int .u64 s.l.d6, .int .u64 s.l.d7, s.img]
theorem encStp_len (s : Stp) : (encStp s).length = 11 := rfl
def okStp (w : World) (s : Stp) : Prop := ∃ xs : List Ln, Rds w 8 s.img xs.length (encLns xs)
def imgLen : Value → Nat
  | .slice _ n _ => n
  | _ => 0
def fairB (ss : List Stp) : Bool := ss.all (fun s => decide (imgLen s.img ≤ 100)) && decide (ss.length ≤ 200)
theorem fair_yes {ss : List Stp} (h : ∀ t, t < ss.length → ∀ s, ss[t]? = some s → imgLen s.img ≤ 100) : fairB ss = decide (ss.length ≤ 200) := by
  have : ss.all (fun s => decide (imgLen s.img ≤ 100)) = true := by
    rw [List.all_eq_true]
    intro s hs
    obtain ⟨i, hi, rfl⟩ := List.getElem_of_mem hs
    exact decide_eq_true (h i hi _ (List.getElem?_eq_getElem hi))
  rw [fairB, this, Bool.true_and]
theorem fair_no {ss : List Stp} {t : Nat} {s : Stp} (h : ss[t]? = some s) (hl : ¬ imgLen s.img ≤ 100) : fairB ss = false := by
  have : ss.all (fun s => decide (imgLen s.img ≤ 100)) = false := by
    rw [List.all_eq_false]
    exact ⟨s, List.mem_of_getElem? h, by simpa using hl⟩
  rw [fairB, this, Bool.false_and]
set_option maxHeartbeats 4000000 in
theorem fair_any (v : Value) (ss : List Stp) (w : World) (hr : Rds w 11 v ss.length (encL encStp ss)) (hs : ∀ s ∈ ss, okStp w s) :
    Calls Try.prog 7 #[v] w fun e w' => e = .returned (.bool (fairB ss)) ∧ w = w' := by
  obtain ⟨_, ad, cap, rfl, p2, p3, p4, p5⟩ := hr
  have ma : maxLen = 9223372036854775807 := rfl
  rw [ma] at p3
  clear ma
  obtain ⟨n, hn⟩ : ∃ n, ss.length = n := ⟨_, rfl⟩
  have HN := Lib.hid hn
  rw [hn] at p2 p4 p5
  simp only [hn]
  clear hn
  have P5 := Lib.hid p5; have HS := Lib.hid hs
  clear p4 p5 hs
  go_enter Try.func7, Try.ntmps7
  go_wp2
  go_loopw [3] (fun i w' => ∃ j : Nat, j ≤ n ∧ i = .int .i64 j ∧ w' = w ∧ (∀ t, t < j → ∀ s, ss[t]? = some s → imgLen s.img ≤ 100)) (fun i _ => n - (intOf i).toNat)
  case atStart => exact ⟨0, by omega, rfl, rfl, fun t ht => by omega⟩
  case round =>
  obtain ⟨j, hj, rfl, rfl, hE⟩ := hrel
  by_cases hlt : j < n
  · obtain ⟨s, hsj⟩ : ∃ s, ss[j]? = some s := ⟨_, List.getElem?_eq_getElem (by rw [HN.out]; exact hlt)⟩
    obtain ⟨g, o, rfl, hg, hc⟩ := P5.out (by omega)
    obtain ⟨xs, _, a, c, him, _⟩ := HS.out s (List.mem_of_getElem? hsj)
    obtain ⟨m, hm⟩ : ∃ m, xs.length = m := ⟨_, rfl⟩
    rw [hm] at him
    have hlen : imgLen s.img = m := by rw [him]; rfl
    have x10 : wr.cell? ⟨g, o + j * 11 + 10, none⟩ = some (.slice a m c) := by
      rw [Nat.add_assoc, ← him]; exact hc _ _ ((encL_get encStp_len ss j _ hsj 10 (by omega)).trans rfl)
    have HE := Lib.hid hE; have HSJ := Lib.hid hsj; have HL := Lib.hid hlen
    clear hE hsj hc hm him hlen
    have hj0 : (0 : Int) ≤ (j : Int) := by omega
    have hj1 : (j : Int) < (n : Int) := by omega
    by_cases hm : m ≤ 100
    · have hm' : ¬ (100 : Int) < (m : Int) := by omega
      go_wp2
      go_roundw
      case rel => exact ⟨j + 1, by omega, by go_num, by first | rfl | trivial, fun t ht s' hs' => by
        rcases Nat.lt_or_ge t j with h | h
        · exact HE.out t h s' hs'
        · obtain rfl : t = j := by omega
          rw [HSJ.out] at hs'
          obtain rfl := Option.some.inj hs'
          rw [HL.out]; exact hm⟩
      case measure => simp [intOf]; omega
    · have hm' : (100 : Int) < (m : Int) := by omega
      have hb := fair_no HSJ.out (by rw [HL.out]; exact hm)
      have HB := Lib.hid hb
      clear hb
      go_wp2
      go_ret
      exact ⟨by rw [HB.out]; rfl, rfl⟩
  · have hjn : j = n := by omega
    have hb : fairB ss = decide (n ≤ 200) := by
      rw [fair_yes (fun t ht => hE t (by rw [hjn]; rw [← HN.out]; exact ht)), HN.out]
    have HB := Lib.hid hb
    clear hb hE
    by_cases h2 : n ≤ 200
    · have h3 : (n : Int) ≤ 200 := by omega
      go_wp2
      go_ret
      exact ⟨by rw [HB.out, decide_eq_true h2]; rfl, rfl⟩
    · have h3 : ¬ (n : Int) ≤ 200 := by omega
      go_wp2
      go_ret
      exact ⟨by rw [HB.out, decide_eq_false h2]; rfl, rfl⟩
end Go.Proofs.Ytkkeilbaieflmaa
