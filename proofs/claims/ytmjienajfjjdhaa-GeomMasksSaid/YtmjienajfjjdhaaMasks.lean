/-
  GeomMasks, walked.
-/
import Derived.Test.YtmjienajfjjdhaaTells
namespace Go.Proofs.Ytmjienajfjjdhaa
open Go.RowKit
attribute [local go_sem ↓] Go.wp_at_zero Go.wp_at_succ

theorem wrap_small (x : Nat) (h : x < 256) : IntKind.u8.wrap (x : Int) = x := by
  rw [IntKind.wrap_u8]
  omega
theorem and_nat (a b : Nat) (ha : a < 256) (hb : b < 256) : bits .and .u8 (a : Int) (b : Int) = ((a &&& b : Nat) : Int) := by
  have hx : a &&& b < 2 ^ 8 := Nat.and_lt_two_pow _ (by omega)
  have h1 : (BitVec.ofInt 8 (a : Int)).toNat = a := by
    rw [BitVec.ofInt_natCast, BitVec.toNat_ofNat]; exact Nat.mod_eq_of_lt (by omega)
  have h2 : (BitVec.ofInt 8 (b : Int)).toNat = b := by
    rw [BitVec.ofInt_natCast, BitVec.toNat_ofNat]; exact Nat.mod_eq_of_lt (by omega)
  show IntKind.u8.wrap ((BitVec.ofInt 8 (a : Int) &&& BitVec.ofInt 8 (b : Int)).toNat : Int) = _
  rw [BitVec.toNat_and, h1, h2]
  exact wrap_small _ (by omega)
theorem or_nat (a b : Nat) (ha : a < 256) (hb : b < 256) : bits .or .u8 (a : Int) (b : Int) = ((a ||| b : Nat) : Int) := by
  have hx : a ||| b < 2 ^ 8 := Nat.or_lt_two_pow (by omega) (by omega)
  have h1 : (BitVec.ofInt 8 (a : Int)).toNat = a := by
    rw [BitVec.ofInt_natCast, BitVec.toNat_ofNat]; exact Nat.mod_eq_of_lt (by omega)
  have h2 : (BitVec.ofInt 8 (b : Int)).toNat = b := by
    rw [BitVec.ofInt_natCast, BitVec.toNat_ofNat]; exact Nat.mod_eq_of_lt (by omega)
  show IntKind.u8.wrap ((BitVec.ofInt 8 (a : Int) ||| BitVec.ofInt 8 (b : Int)).toNat : Int) = _
  rw [BitVec.toNat_or, h1, h2]
  exact wrap_small _ (by omega)
set_option maxRecDepth 100000 in
theorem has_all : (List.range 256).all (fun (m : Nat) => (List.range 8).all (fun (k : Nat) => hasB m k == m.testBit k)) = true := by kernel_rfl
theorem has_bit (m k : Nat) (hm : m < 256) (hk : k < 8) : hasB m k = m.testBit k := by
  have h := List.all_eq_true.1 (List.all_eq_true.1 has_all m (List.mem_range.2 hm)) k (List.mem_range.2 hk)
  exact eq_of_beq h
theorem cores_bits (m : Nat) (hm : m < 256) : coresU m 8 = (List.range 8).filter fun k => m.testBit k :=
  List.filter_congr fun k hk => has_bit m k hm (List.mem_range.1 hk)
theorem len_or_and (p q : Nat → Bool) : ∀ l : List Nat, (l.filter fun x => p x || q x).length + (l.filter fun x => p x && q x).length = (l.filter p).length + (l.filter q).length
  | [] => rfl
  | x :: l => by
    have ih := len_or_and p q l
    simp only [List.filter_cons]
    cases p x <;> cases q x <;> simp <;> omega
theorem count_or (a b : Nat) (ha : a < 256) (hb : b < 256) : pcI ((a ||| b : Nat) : Int) = pcI a + pcI b - pcI ((a &&& b : Nat) : Int) := by
  have ho : a ||| b < 2 ^ 8 := Nat.or_lt_two_pow (by omega) (by omega)
  have hd : a &&& b < 2 ^ 8 := Nat.and_lt_two_pow _ (by omega)
  rw [count_len _ (by omega) (by omega), count_len a (by omega) (by omega), count_len b (by omega) (by omega), count_len _ (by omega) (by omega)]
  rw [cores_bits _ (by omega), cores_bits _ ha, cores_bits _ hb, cores_bits _ (by omega)]
  have h := len_or_and a.testBit b.testBit (List.range 8)
  simp only [Nat.testBit_or, Nat.testBit_and]
  have e1 : (List.filter (fun k => a.testBit k) (List.range 8)) = List.filter a.testBit (List.range 8) := rfl
  have e2 : (List.filter (fun k => b.testBit k) (List.range 8)) = List.filter b.testBit (List.range 8) := rfl
  rw [e1, e2]
  omega
theorem cores_sorted (m : Int) : (coresU m 8).Pairwise (· < ·) := List.Pairwise.filter _ List.pairwise_lt_range
set_option maxRecDepth 100000 in
theorem none_all : (List.range 256).all (fun (m : Nat) => m == 0 || !(coresU m 8).isEmpty) = true := by kernel_rfl
theorem first_nonneg (a : Nat) (ha : a < 256) (h0 : ¬ a = 0) : ∃ x t, coresU a 8 = x :: t ∧ firstI a = x := by
  have h := List.all_eq_true.1 none_all a (List.mem_range.2 ha)
  rcases hl : coresU a 8 with _ | ⟨x, t⟩
  · rw [hl] at h
    simp [h0] at h
  · exact ⟨x, t, rfl, by rw [firstI, hl]⟩
theorem first_or (a b : Nat) (ha : a < 256) (hb : b < 256) (h0 : ¬ a = 0) : firstI ((a ||| b : Nat) : Int) ≤ firstI a := by
  have ho : a ||| b < 2 ^ 8 := Nat.or_lt_two_pow (by omega) (by omega)
  obtain ⟨x, t, hx, hf⟩ := first_nonneg a ha h0
  have hm : x ∈ coresU a 8 := by rw [hx]; exact List.mem_cons_self
  rw [cores_bits a ha, List.mem_filter] at hm
  have hm2 : x ∈ coresU ((a ||| b : Nat) : Int) 8 := by
    rw [cores_bits _ (by omega), List.mem_filter, Nat.testBit_or]
    exact ⟨hm.1, by rw [hm.2]; rfl⟩
  have hs := cores_sorted ((a ||| b : Nat) : Int)
  rcases hl : coresU ((a ||| b : Nat) : Int) 8 with _ | ⟨y, t'⟩
  · rw [hl] at hm2; cases hm2
  · rw [hl] at hm2 hs
    have hy : firstI ((a ||| b : Nat) : Int) = y := by rw [firstI, hl]
    rw [hy, hf]
    rcases List.mem_cons.1 hm2 with rfl | h
    · exact Int.le_refl _
    · have := List.rel_of_pairwise_cons hs h; omega
def orU (l : List Nat) : Int := l.foldl (fun m (i : Nat) => bits BinOp.or IntKind.u8 m (bitI i)) 0
theorem orU_next (l : List Nat) (j x : Nat) (h : l[j]? = some x) : orU (l.take (j + 1)) = bits BinOp.or IntKind.u8 (orU (l.take j)) (bitI x) := by
  rw [List.take_add_one, h, orU, List.foldl_append]
  rfl
set_option maxRecDepth 100000 in
theorem or_all : (List.range 256).all (fun (m : Nat) => orU (coresU m 8) == m) = true := by kernel_rfl
theorem or_cores (m : Nat) (hm : m < 256) : orU (coresU m 8) = m := eq_of_beq (List.all_eq_true.1 or_all m (List.mem_range.2 hm))
set_option maxRecDepth 100000 in
set_option maxHeartbeats 600000 in
theorem masks_law (A Bv : Int) (a b : Nat) (hA : A = (a : Int)) (hBv : Bv = (b : Int)) (ha : a < 256) (hb : b < 256) (w : World) :
    Calls Try.prog 4 #[.int .u8 A, .int .u8 Bv] w fun e w' => e = .returned (.bool true) ∧ Below w.heap.size w w' := by
  have ho : a ||| b < 2 ^ 8 := Nat.or_lt_two_pow (by omega) (by omega)
  have hd : a &&& b < 2 ^ 8 := Nat.and_lt_two_pow _ (by omega)
  obtain ⟨o, hoo⟩ : ∃ o, ((a ||| b : Nat) : Int) = o := ⟨_, rfl⟩
  obtain ⟨dd, hdd⟩ : ∃ o, ((a &&& b : Nat) : Int) = o := ⟨_, rfl⟩
  have ho0 : 0 ≤ o ∧ o ≤ 255 := by omega
  have hd0 : 0 ≤ dd ∧ dd ≤ 255 := by omega
  have eo : bits .or .u8 A Bv = o := by rw [hA, hBv, ← hoo]; exact or_nat a b ha hb
  have ed : bits .and .u8 A Bv = dd := by rw [hA, hBv, ← hdd]; exact and_nat a b ha hb
  have hcnt : pcI o = pcI A + pcI Bv - pcI dd := by rw [hA, hBv, ← hoo, ← hdd]; exact count_or a b ha hb
  have hle : ¬ a = 0 → firstI o ≤ firstI A := fun h => by rw [hA, ← hoo]; exact first_or a b ha hb h
  have hge : ¬ a = 0 → 0 ≤ firstI A := fun h => by
    obtain ⟨x, t, _, hx⟩ := first_nonneg a ha h
    rw [hA, hx]; omega
  have hor : orU (coresU A 8) = A := by rw [hA]; exact or_cores a ha
  have hA0 : a = 0 ↔ A = 0 := by omega
  have hAr : 0 ≤ A ∧ A ≤ 255 := by omega
  have hBr : 0 ≤ Bv ∧ Bv ≤ 255 := by omega
  clear hA hBv hoo hdd ho hd
  have cc := fun w => cores_any A w
  have ca := fun w => count_any A hAr.1 hAr.2 w
  have cb := fun w => count_any Bv hBr.1 hBr.2 w
  have co := fun w => count_any o ho0.1 ho0.2 w
  have cd := fun w => count_any dd hd0.1 hd0.2 w
  have fa := fun w => first_any A w
  have fo := fun w => first_any o w
  have hsrt := cores_sorted A
  have hmem : ∀ x ∈ coresU A 8, hasB A x = true := fun x hx => (List.mem_filter.1 hx).2
  have hlen := coresU_len A 8
  have hla := count_len A hAr.1 hAr.2
  have hlb := count_len Bv hBr.1 hBr.2
  have hlb8 := coresU_len Bv 8
  have hld := count_len dd hd0.1 hd0.2
  have hld8 := coresU_len dd 8
  obtain ⟨xs, hxs⟩ : ∃ xs, coresU A 8 = xs := ⟨_, rfl⟩
  obtain ⟨n, hn⟩ : ∃ n, xs.length = n := ⟨_, rfl⟩
  obtain ⟨nb, hnb⟩ : ∃ n, (coresU Bv 8).length = n := ⟨_, rfl⟩
  obtain ⟨nd, hnd⟩ : ∃ n, (coresU dd 8).length = n := ⟨_, rfl⟩
  rw [hxs] at hla hlen hor hsrt
  simp only [hxs] at cc hmem
  rw [hn] at hla hlen
  rw [hnb] at hlb hlb8
  rw [hnd] at hld hld8
  rw [hla, hlb, hld] at hcnt
  simp only [hla] at ca
  simp only [hlb] at cb
  simp only [hld] at cd
  simp only [hcnt] at co
  generalize firstI o = F2 at fo hle
  generalize firstI A = F1 at fa hle hge
  have HN := Lib.hid hn
  have CC := Lib.hid cc; have CA := Lib.hid ca; have CB := Lib.hid cb; have CO := Lib.hid co; have CD := Lib.hid cd; have FA := Lib.hid fa; have FO := Lib.hid fo
  have HOR := Lib.hid hor; have HS := Lib.hid hsrt; have HM := Lib.hid hmem; have HLE := Lib.hid hle; have HGE := Lib.hid hge; have HA0 := Lib.hid hA0
  clear cc ca cb co cd fa fo hor hsrt hmem hle hge hla hlb hld hcnt hn hnb hnd hxs hA0 ho0 hd0 hAr hBr
  go_enter Try.func4, Try.ntmps4
  go_wp2_with fail
  refine (CC.out _).mono ?_
  rintro e w1 ⟨v1, rfl, hO1, hB1⟩
  rw [HN.out] at hO1
  obtain ⟨av, cv, rfl, hv1, hv2⟩ := hO1.any
  have HO1 := Lib.hid hO1; have HB1 := Lib.hid hB1
  clear hO1 hB1
  go_wp2_with fail
  go_loopw [6, 7] (fun m i w' => ∃ j : Nat, j ≤ n ∧ i = .int .i64 j ∧ m = .int .u8 (orU (xs.take j)) ∧ Below w1.heap.size w1 w') (fun m i _ => n - (intOf i).toNat)
  case atStart => exact ⟨0, by omega, rfl, rfl, Below.refl _ _⟩
  case round =>
  obtain ⟨j, hj, rfl, rfl, hB⟩ := hrel
  by_cases hlt : j < n
  · obtain ⟨x, hx⟩ : ∃ x, xs[j]? = some x := ⟨_, List.getElem?_eq_getElem (by rw [HN.out]; exact hlt)⟩
    have HNX := Lib.hid (orU_next xs j x hx)
    have hhx := HM.out x (List.mem_of_getElem? hx)
    have hh : ∀ w, Calls Try.prog 10 #[.int .u8 A, .int .i64 x] w fun e w' => e = .returned (.bool true) ∧ w = w' := fun w => by rw [← hhx]; exact has_any A x w
    have hbt := fun w => bit_any x w
    obtain ⟨g, off, c', hvf, -, -, -, hg, hc, -⟩ := (HO1.out.below' hB).form (by omega)
    injection hvf with e1 e2 e3
    subst e1
    have q0 : wr.cell? ⟨g, off + j, none⟩ = some (.int .i64 x) := hc j _ (by simp [encI, hx])
    obtain ⟨y, hy⟩ : ∃ y, orU (xs.take j) = y := ⟨_, rfl⟩
    obtain ⟨z, hz⟩ : ∃ z, bitI x = z := ⟨_, rfl⟩
    rw [hy, hz] at HNX
    simp only [hz] at hbt
    rw [hy]
    have HH := Lib.hid hh; have HBT := Lib.hid hbt; have HB := Lib.hid hB
    have hj1 : (j : Int) < (n : Int) := by omega
    have hj0' : (0 : Int) ≤ (j : Int) := by omega
    have he2 : cv = cv := rfl
    rcases Nat.eq_zero_or_pos j with h0 | h0
    · subst h0
      rw [Nat.add_zero] at q0
      clear hhx hh hbt hB hc hx hy hz e2 e3 he2
      go_wp2_with fail
      go_quiet ((refine ((HH.out _).mono ?_); rintro e w' ⟨rfl, rfl⟩; exact ⟨rfl, _, rfl⟩))
      go_wp2_with (go_at_call 8; refine (HBT.out _).mono ?_; rintro e w' ⟨rfl, rfl⟩)
      go_roundw
      case rel => exact ⟨0 + 1, by omega, by go_num, by rw [HNX.out], below_drewN HB.out _⟩
      case measure => simp [intOf]; omega
    · obtain ⟨xp, hxp⟩ : ∃ x, xs[j - 1]? = some x := ⟨_, List.getElem?_eq_getElem (by rw [HN.out]; omega)⟩
      have hlt2 : xp < x := by
        have h1 := List.getElem?_eq_some_iff.1 hxp
        have h2 := List.getElem?_eq_some_iff.1 hx
        have := List.pairwise_iff_getElem.1 HS.out (j - 1) j h1.1 h2.1 (by omega)
        rw [h1.2, h2.2] at this
        exact this
      have qp : wr.cell? ⟨g, off + (j - 1), none⟩ = some (.int .i64 xp) := hc (j - 1) _ (by simp [encI, hxp])
      obtain ⟨p, hp⟩ : ∃ p, j - 1 = p := ⟨_, rfl⟩
      rw [hp] at qp
      have hwp : IntKind.i64.wrap ((j : Int) - 1) = (p : Int) := by rw [IntWalk.i64_in _ (by omega)]; omega
      have hp0 : (0 : Int) ≤ (p : Int) := by omega
      have hp1 : (p : Int) < (n : Int) := by omega
      have hj2 : (0 : Int) < (j : Int) := by omega
      have hle2 : ¬ (x : Int) ≤ (xp : Int) := by omega
      have hle3 : ¬ x ≤ xp := by omega
      have hle4 : (decide (x ≤ xp)) = false := decide_eq_false hle3
      clear hhx hh hbt hB hc hx hxp hlt2 hp hy hz e2 e3 he2
      go_wp2_with fail
      go_quiet ((refine ((HH.out _).mono ?_); rintro e w' ⟨rfl, rfl⟩; exact ⟨rfl, _, rfl⟩))
      go_wp2_with (go_at_call 8; refine (HBT.out _).mono ?_; rintro e w' ⟨rfl, rfl⟩)
      go_roundw
      case rel => exact ⟨j + 1, by omega, by go_num, by rw [HNX.out], below_drewN HB.out _⟩
      case measure => simp [intOf]; omega
  · obtain rfl : j = n := by omega
    have hj1 : ¬ (j : Int) < (j : Int) := by omega
    have htk : xs.take j = xs := List.take_of_length_le (by rw [HN.out]; exact Nat.le_refl _)
    rw [htk, HOR.out]
    have HBX := Lib.hid (Below.then HB1.out hB)
    clear htk hB
    by_cases hz : A = 0
    · have hz' : (A == 0) = true := by simp [hz]
      clear hz
      go_wp2_with fail
      refine (CA.out _).mono ?_
      rintro e w9 ⟨rfl, hb9⟩
      have HB9 := Lib.hid (Below.then HBX.out hb9)
      clear hb9 HBX
      have HBX := HB9
      clear HB9
      go_wp2_with fail
      refine (CO.out _).mono ?_
      rintro e w9 ⟨rfl, hb9⟩
      have HB9 := Lib.hid (Below.then HBX.out hb9)
      clear hb9 HBX
      have HBX := HB9
      clear HB9
      go_wp2_with fail
      refine (CA.out _).mono ?_
      rintro e w9 ⟨rfl, hb9⟩
      have HB9 := Lib.hid (Below.then HBX.out hb9)
      clear hb9 HBX
      have HBX := HB9
      clear HB9
      go_wp2_with fail
      refine (CB.out _).mono ?_
      rintro e w9 ⟨rfl, hb9⟩
      have HB9 := Lib.hid (Below.then HBX.out hb9)
      clear hb9 HBX
      have HBX := HB9
      clear HB9
      go_wp2_with fail
      refine (CD.out _).mono ?_
      rintro e w9 ⟨rfl, hb9⟩
      have HB9 := Lib.hid (Below.then HBX.out hb9)
      clear hb9 HBX
      have HBX := HB9
      clear HB9
      go_wp2_with fail
      refine (wakes_any _).mono ?_
      rintro e w9 ⟨rfl, hb9⟩
      have HB9 := Lib.hid (Below.then HBX.out hb9)
      clear hb9
      go_wp2
      go_ret
      exact ⟨rfl, HB9.out⟩
    · have hz' : (A == 0) = false := by simp [hz]
      have hge1 := HGE.out (fun h => hz (HA0.out.1 h))
      have hle1 := HLE.out (fun h => hz (HA0.out.1 h))
      go_wp2_with fail
      refine (CA.out _).mono ?_
      rintro e w9 ⟨rfl, hb9⟩
      have HB9 := Lib.hid (Below.then HBX.out hb9)
      clear hb9 HBX
      have HBX := HB9
      clear HB9
      go_wp2_with fail
      refine (CO.out _).mono ?_
      rintro e w9 ⟨rfl, hb9⟩
      have HB9 := Lib.hid (Below.then HBX.out hb9)
      clear hb9 HBX
      have HBX := HB9
      clear HB9
      go_wp2_with fail
      refine (CA.out _).mono ?_
      rintro e w9 ⟨rfl, hb9⟩
      have HB9 := Lib.hid (Below.then HBX.out hb9)
      clear hb9 HBX
      have HBX := HB9
      clear HB9
      go_wp2_with fail
      refine (CB.out _).mono ?_
      rintro e w9 ⟨rfl, hb9⟩
      have HB9 := Lib.hid (Below.then HBX.out hb9)
      clear hb9 HBX
      have HBX := HB9
      clear HB9
      go_wp2_with fail
      refine (CD.out _).mono ?_
      rintro e w9 ⟨rfl, hb9⟩
      have HB9 := Lib.hid (Below.then HBX.out hb9)
      clear hb9 HBX
      have HBX := HB9
      clear HB9
      go_wp2_with fail
      refine (FA.out _).mono ?_
      rintro e w9 ⟨rfl, hb9⟩
      have HB9 := Lib.hid (Below.then HBX.out hb9)
      clear hb9 HBX
      have HBX := HB9
      clear HB9
      go_wp2_with fail
      refine (FO.out _).mono ?_
      rintro e w9 ⟨rfl, hb9⟩
      have HB9 := Lib.hid (Below.then HBX.out hb9)
      clear hb9 HBX
      have HBX := HB9
      clear HB9
      go_wp2_with fail
      refine (FA.out _).mono ?_
      rintro e w9 ⟨rfl, hb9⟩
      have HB9 := Lib.hid (Below.then HBX.out hb9)
      clear hb9 HBX
      have HBX := HB9
      clear HB9
      go_wp2_with fail
      refine (wakes_any _).mono ?_
      rintro e w9 ⟨rfl, hb9⟩
      have HB9 := Lib.hid (Below.then HBX.out hb9)
      clear hb9
      go_wp2
      go_ret
      exact ⟨rfl, HB9.out⟩
section
variable {H : Type} {enc : TypeId × Value → H}
theorem masks_walk {base : Nat} (W : World) (v0 v1 : Value) (a0 : Arg enc Try.prog W base 5 v0) (a1 : Arg enc Try.prog W base 5 v1) :
    Calls Try.prog 4 #[v0, v1] W fun e w' => e = .returned (.bool true) ∧ Below W.heap.size W w' := by
  obtain ⟨n, rfl, hn⟩ := a0.int Try.underlying5
  obtain ⟨hn0, hn1⟩ := wf_u8 hn
  obtain ⟨m, rfl, hm⟩ := a1.int Try.underlying5
  obtain ⟨hm0, hm1⟩ := wf_u8 hm
  obtain ⟨n, rfl⟩ : ∃ k : Nat, n = k := ⟨n.toNat, by omega⟩
  obtain ⟨m, rfl⟩ : ∃ k : Nat, m = k := ⟨m.toNat, by omega⟩
  exact masks_law _ _ n m rfl rfl (by omega) (by omega) W
end
end Go.Proofs.Ytmjienajfjjdhaa
