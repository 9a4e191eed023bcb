/-
  The reference's memory of lines: Fail, Restore, New.
-/
import Derived.Test.YtkkeilbaieflmaaRef
namespace Go.Proofs.Ytkkeilbaieflmaa
open Go.RowKit
attribute [local go_sem ↓] Go.wp_at_zero Go.wp_at_succ

theorem zeroed_set (ls : List Ln) (j : Nat) (hj : j < ls.length) : (List.replicate j Ln.zero ++ ls.drop j).set j Ln.zero = List.replicate (j + 1) Ln.zero ++ ls.drop (j + 1) := by
  rw [List.set_append_right _ _ (by simp), List.length_replicate, Nat.sub_self, List.drop_eq_getElem_cons hj, List.set_cons_zero, List.replicate_succ', List.append_assoc]
  rfl
set_option maxRecDepth 100000 in
set_option maxHeartbeats 4000000 in
theorem rfail_any (q base : Nat) (v : Value) (ls : List Ln) (vol : Nat) (w : World) (h : RAt w q base v ls vol) :
    Calls Try.prog 16 #[.pointer (some ⟨q, 0, none⟩)] w fun e w' => e = .returned (.tuple #[]) ∧ RAt w' q base v (List.replicate vol Ln.zero ++ ls.drop vol) vol ∧ Only (fun k => v.ownBlock = some k) w w' := by
  have hn1 := h.n1
  have hv1 := h.v1
  have hl : ∀ j, j ≤ vol → (List.replicate j Ln.zero ++ ls.drop j).length = ls.length := fun j hj => by rw [List.length_append, List.length_replicate, List.length_drop]; omega
  have H := Lib.hid h
  have HL := Lib.hid hl
  clear h hl
  go_enter Try.func16, Try.ntmps16
  go_wp2
  go_loopw [2] (fun i w' => ∃ j : Nat, j ≤ vol ∧ i = .int .i64 j ∧ RAt w' q base v (List.replicate j Ln.zero ++ ls.drop j) vol ∧ Only (fun k => v.ownBlock = some k) w w') (fun i _ => vol - (intOf i).toNat)
  case atStart => exact ⟨0, by omega, rfl, H.out, Only.refl _ _⟩
  case round =>
  obtain ⟨j, hj, rfl, hR, hO⟩ := hrel
  by_cases hlt : j < vol
  · obtain ⟨g, o, cap, rfl, k1, k2, k3, k4, k5, k6⟩ := hR.form
    obtain ⟨y, hy⟩ : ∃ y, (List.replicate j Ln.zero ++ ls.drop j)[j]? = some y := ⟨_, List.getElem?_eq_getElem (by rw [HL.out j hj]; omega)⟩
    have hR' := hR
    rw [HL.out j hj] at hR'
    have hp := RAt.put (ls := List.replicate j Ln.zero ++ ls.drop j) (by rw [HL.out j hj]; exact hR') j Ln.zero (by rw [HL.out j hj]; omega)
    rw [zeroed_set ls j (by omega)] at hp
    have q0 := hR.c0
    have q1 := hR.c1
    have hy1 := k5 j y hy
    have x0 : wr.cell? ⟨g, o + j * 8, none⟩ = some (.int .u64 y.d0) := hy1 0 _ rfl
    have x1 : wr.cell? ⟨g, o + j * 8 + 1, none⟩ = some (.int .u64 y.d1) := hy1 1 _ rfl
    have x2 : wr.cell? ⟨g, o + j * 8 + 2, none⟩ = some (.int .u64 y.d2) := hy1 2 _ rfl
    have x3 : wr.cell? ⟨g, o + j * 8 + 3, none⟩ = some (.int .u64 y.d3) := hy1 3 _ rfl
    have x4 : wr.cell? ⟨g, o + j * 8 + 4, none⟩ = some (.int .u64 y.d4) := hy1 4 _ rfl
    have x5 : wr.cell? ⟨g, o + j * 8 + 5, none⟩ = some (.int .u64 y.d5) := hy1 5 _ rfl
    have x6 : wr.cell? ⟨g, o + j * 8 + 6, none⟩ = some (.int .u64 y.d6) := hy1 6 _ rfl
    have x7 : wr.cell? ⟨g, o + j * 8 + 7, none⟩ = some (.int .u64 y.d7) := hy1 7 _ rfl
    rw [HL.out j hj] at q0
    have hO2 : Only (fun k => (Value.slice (some ⟨g, o, none⟩) (List.replicate j Ln.zero ++ ls.drop j).length cap).ownBlock = some k) w (wr.setCells g (o + j * 8) (encLn Ln.zero)) := hO.trans ((Only.setCells g (encLn Ln.zero) (o + j * 8) wr).mono (fun k _ hk => by rw [hk]; rfl))
    have HP := Lib.hid hp; have HO := Lib.hid hO2
    have hj0 : (0 : Int) ≤ (j : Int) := by omega
    have hj1 : (j : Int) < (ls.length : Int) := by omega
    have hj2 : (j : Int) < (vol : Int) := by omega
    have hln : (List.replicate j Ln.zero ++ ls.drop j).length = ls.length := HL.out j hj
    have HLN := Lib.hid hln
    clear hp hO2 hR hR' hO hy hy1 k5 hln
    go_wp2
    go_roundw
    case rel => exact ⟨j + 1, by omega, by go_num, by rw [HLN.out] at HP ⊢; exact HP.out, HO.out⟩
    case measure => simp [intOf]; omega
  · have hj' : j = vol := by omega
    subst hj'
    have q1 := hR.c1
    have HR := Lib.hid hR; have HO := Lib.hid hO
    clear hR hO
    go_wp2
    go_end0
    exact ⟨rfl, HR.out, HO.out⟩
set_option maxRecDepth 100000 in
set_option maxHeartbeats 4000000 in
theorem rrestore_any (q base : Nat) (v vi : Value) (ls xs : List Ln) (vol : Nat) (hx : xs.length = ls.length) (w : World) (h : RAt w q base v ls vol) (hr : Rds w 8 vi xs.length (encLns xs)) :
    Calls Try.prog 18 #[.pointer (some ⟨q, 0, none⟩), vi] w fun e w' => e = .returned (.int .i64 0) ∧ ∃ v', RAt w' q base v' xs vol ∧ Only (fun k => k = q) w w' ∧ (∀ k, v'.ownBlock = some k → w.heap.size ≤ k) := by
  obtain ⟨i0, hi0, hz0, hz1, hz2⟩ := info_parts info34
  obtain ⟨hl, ad, cap, rfl, r2, r3, r4, r5⟩ := hr
  obtain ⟨b, o, rfl, hb, hc⟩ := r5 (by rw [hx]; exact h.n0)
  obtain ⟨gv, ov, cv, rfl, _⟩ := h.form
  have hown : Own (w.alloc (.cells #[] 34)) w.heap.size 34 8 (.slice (some ⟨w.heap.size, 0, none⟩) 0 0) 0 [] :=
      ⟨by simp, .inr ⟨w.heap.size, 0, 0, #[], rfl, Nat.le_refl _, heap_alloc_new w _, Nat.le_refl _, Nat.zero_le _, by simp, by simp⟩⟩
  have hnews : ∀ j u, (encLns xs)[j]? = some u → (w.alloc (.cells #[] 34)).cell? ((⟨b, o, none⟩ : Addr).add j) = some u := fun j u hu => by
    have hadd : (⟨b, o, none⟩ : Addr).add j = ⟨b, o + j, none⟩ := by unfold Addr.add; split <;> simp_all
    rw [hadd, World.cell?_alloc_old _ _ _ (by simp; omega)]
    exact hc j u hu
  have h0 : 0 < ls.length := h.n0
  have h64 := h.n1
  have c0 := h.c0
  have hq : q < w.heap.size := h.lt
  have hH := Lib.hid h
  rw [hx] at hl r2 ⊢
  have HL := Lib.hid hl
  have HX := Lib.hid hx
  clear h r4 r5 hl hc hx
  go_enter Try.func18, Try.ntmps18
  go_wp2_with (at_builtin; refine wpList_append_Own _ rfl _ _ 35 rfl w.heap.size 34 i0 _ 8 64 Try.underlying35 hi0 hz0 hz1 hz2 rfl (.slice (some ⟨w.heap.size, 0, none⟩) 0 0) 0 [] rfl hown ⟨b, o, none⟩ ls.length cap (encLns xs) rfl HL.out hnews (encLns_one xs) h0 (by unfold maxLen; omega) (by omega) (by simp) ?_; intro g' o' cap' w2 hown2 honly2 hat2 hlt2; have hon : Only (fun k => w.heap.size ≤ k) w w2 := (Only.al (Only.refl _ w) _).trans (honly2.mono (fun k _ hk => by have h' : w.heap.size = k := Option.some.inj hk; omega)); have hqc : w2.cell? ⟨q, 0, none⟩ = some (.slice (some ⟨gv, ov, none⟩) ls.length cv) := (hon.cell (p := ⟨q, 0, none⟩) hq (by simp; omega)).trans c0; have hqf : w2.frozen? ⟨q, 0, none⟩ = false := (hon.frozen (p := ⟨q, 0, none⟩) hq (by simp; omega)).trans (hH.out.free 0))
  simp only [Nat.zero_add, List.nil_append] at hown2 ⊢
  have hg' : w.heap.size ≤ g' := by
    rcases hat2 with hk | hk
    · have h' : w.heap.size = g' := Option.some.inj hk; omega
    · rw [hk]; simp
  have hF : ∀ V, V = Value.slice (some ⟨g', o', none⟩) ls.length cap' → RAt (w2.setCell ⟨q, 0, none⟩ V) q base V xs vol ∧ Only (fun k => k = q) w (w2.setCell ⟨q, 0, none⟩ V) := fun V hV => by
    subst hV
    have hset : Only (fun k => k = q) w2 (w2.setCell ⟨q, 0, none⟩ (.slice (some ⟨g', o', none⟩) ls.length cap')) := Only.set (Only.refl _ _) _ _ (Or.inl rfl)
    have hlo : base ≤ w.heap.size := hH.out.low
    refine ⟨⟨World.cell?_setCell_same _ _ _ hqc, ?_, fun j => ?_, ?_, ?_, ?_, hH.out.lo, ?_, ?_, ?_⟩, ?_⟩
    · rw [World.cell?_setCell_other _ _ _ _ (by intro he; injection he; omega)]
      exact (hon.cell (p := ⟨q, 1, none⟩) hq (by simp; omega)).trans hH.out.c1
    · rw [World.frozen?_setCell]
      exact (hon.frozen (p := ⟨q, j, none⟩) hq (by simp; omega)).trans (hH.out.free j)
    · rw [HX.out]
      exact (hown2.only hset (fun k hk hkq => by have h' : g' = k := Option.some.inj hk; omega)).low hlo
    · intro hk; have h' : g' = q := Option.some.inj hk; omega
    · have := hon.size; simp [World.setCell]; omega
    · rw [HX.out]; exact hH.out.v1
    · rw [HX.out]; exact h0
    · rw [HX.out]; exact h64
    · exact (Only.out (Only.refl _ w) (hon.mono (fun k _ hk => hk)) (fun i hi => hi)).trans hset
  have HF := Lib.hid hF
  clear hF hown2 honly2 hown hnews hon
  go_ret
  exact ⟨rfl, _, (HF.out _ rfl).1, (HF.out _ rfl).2, fun k hk => by have h' : g' = k := Option.some.inj hk; omega⟩
theorem rrestore_bad (q base : Nat) (v : Value) (ls : List Ln) (vol : Nat) (a : Option Addr) (n cap : Nat) (hx : ¬ n = ls.length) (w : World) (h : RAt w q base v ls vol) :
    Calls Try.prog 18 #[.pointer (some ⟨q, 0, none⟩), .slice a n cap] w fun e w' => e = .returned (.int .i64 1) ∧ w = w' := by
  obtain ⟨g, o, cp, rfl, _⟩ := h.form
  have c0 := h.c0
  have hx' : ¬ (n : Int) = (ls.length : Int) := by omega
  clear h hx
  go_enter Try.func18, Try.ntmps18
  go_wp2
  go_ret
  exact ⟨rfl, rfl⟩
theorem RAt.made (w : World) (n m : Nat) (h2 : 0 < n) (h64 : n ≤ 64) (hm : m ≤ n) : RAt ((w.alloc (.cells (encLns (List.replicate n Ln.zero)).toArray 34)).alloc (.cells #[.slice (some ⟨w.heap.size, 0, none⟩) n n, .int .i64 m] 49)) (w.heap.size + 1) w.heap.size (.slice (some ⟨w.heap.size, 0, none⟩) n n) (List.replicate n Ln.zero) m := by
  have hd : ((w.alloc (.cells (encLns (List.replicate n Ln.zero)).toArray 34)).alloc (.cells #[.slice (some ⟨w.heap.size, 0, none⟩) n n, .int .i64 m] 49)).heap[w.heap.size + 1]? = some (.cells #[.slice (some ⟨w.heap.size, 0, none⟩) n n, .int .i64 m] 49 (0, 0)) := by
    have := heap_alloc_new (w.alloc (.cells (encLns (List.replicate n Ln.zero)).toArray 34)) (.cells #[.slice (some ⟨w.heap.size, 0, none⟩) n n, .int .i64 m] 49)
    simpa using this
  have hg : ((w.alloc (.cells (encLns (List.replicate n Ln.zero)).toArray 34)).alloc (.cells #[.slice (some ⟨w.heap.size, 0, none⟩) n n, .int .i64 m] 49)).heap[w.heap.size]? = some (.cells (encLns (List.replicate n Ln.zero)).toArray 34 (0, 0)) := by
    have hb : Below (w.alloc (.cells (encLns (List.replicate n Ln.zero)).toArray 34)).heap.size _ _ := Below.al (Below.refl _ (w.alloc (.cells (encLns (List.replicate n Ln.zero)).toArray 34))) (.cells #[.slice (some ⟨w.heap.size, 0, none⟩) n n, .int .i64 m] 49)
    rw [hb.block w.heap.size (by simp)]
    exact heap_alloc_new _ _
  have hsz : w.heap.size + 1 < ((w.alloc (.cells (encLns (List.replicate n Ln.zero)).toArray 34)).alloc (.cells #[.slice (some ⟨w.heap.size, 0, none⟩) n n, .int .i64 m] 49)).heap.size := by simp
  generalize ((w.alloc (.cells (encLns (List.replicate n Ln.zero)).toArray 34)).alloc (.cells #[.slice (some ⟨w.heap.size, 0, none⟩) n n, .int .i64 m] 49)) = w2 at hd hg hsz ⊢
  have hc := fun o => cell_of_row w2 (w.heap.size + 1) o _ 49 (0, 0) hd
  have hlr : (List.replicate n Ln.zero).length = n := List.length_replicate
  exact ⟨by rw [hc]; rfl, by rw [hc]; rfl, fun o => frozen_of_row w2 _ o _ 49 hd, by
    rw [hlr]
    exact ⟨by rw [encLns_len, hlr], .inr ⟨w.heap.size, 0, n, _, rfl, Nat.le_refl _, hg, Nat.le_refl _, by unfold maxLen; omega, by rw [List.size_toArray, encLns_len, hlr]; omega, by rw [List.drop_zero, List.take_of_length_le (by rw [encLns_len, hlr]; omega)]⟩⟩, by simp [Value.ownBlock], hsz, by omega, by rw [hlr]; exact hm, by rw [hlr]; exact h2, by rw [hlr]; exact h64⟩
set_option maxHeartbeats 4000000 in
theorem rnew_any (n m : Nat) (h2 : 2 ≤ n) (h64 : n ≤ 64) (hm : 1 ≤ m) (hmn : m < n) (w : World) :
    Calls Try.prog 10 #[.int .i64 n, .int .i64 m] w fun e w' => ∃ q v, e = .returned (.tuple #[.pointer (some ⟨q, 0, none⟩), .int .i64 0]) ∧ RAt w' q w.heap.size v (List.replicate n Ln.zero) m ∧ Below w.heap.size w w' := by
  obtain ⟨i0, hi0, hz0, hz1, hz2⟩ := info_parts info34
  have hmk : ∀ w, (Instr.makeSlice 35 (.int .i64 n) (.int .i64 n)).run Try.prog w = .ok (.slice (some ⟨w.heap.size, 0, none⟩) n n) (w.alloc (.cells (encLns (List.replicate n Ln.zero)).toArray 34)) := fun w => by
    have := run_make (P := Try.prog) w 35 34 i0 _ Try.underlying35 hi0 hz0 .i64 .i64 n n (by omega) (Int.le_refl _) (by rw [hz2]; omega) (by omega)
    rw [this, hz1, Int.toNat_natCast]
    show Result.ok _ (w.alloc (.cells (madeCells #[.int .u64 0, .int .u64 0, .int .u64 0, .int .u64 0, .int .u64 0, .int .u64 0, .int .u64 0, .int .u64 0] (n * 8)) 34)) = _
    rw [made_lines]
  have e2 : (2 : Int) ≤ (n : Int) := by omega
  have e64 : (n : Int) ≤ 64 := by omega
  have e1 : (1 : Int) ≤ (m : Int) := by omega
  have en : (m : Int) < (n : Int) := by omega
  clear hi0 hz0 hz1 hz2
  go_enter Try.func10, Try.ntmps10
  go_wp2
  exact bodyPost_ret (v := .tuple #[.pointer (some ⟨w.heap.size + 1, 0, none⟩), .int .i64 0]) (by simp [results, Try.results10, go_sem]) rfl ⟨_, _, rfl, RAt.made w n m (by omega) (by omega) (by omega), Below.al (Below.al (Below.refl _ _) _) _⟩
theorem rnew_bad (a b : Int) (h : ¬ okN a b) (w : World) : Calls Try.prog 10 #[.int .i64 a, .int .i64 b] w fun e w' => e = .returned (.tuple #[.pointer none, .int .i64 1]) ∧ w = w' := by
  by_cases h1 : 2 ≤ a
  · by_cases h2 : a ≤ 64
    · by_cases h3 : 1 ≤ b
      · have h4 : ¬ b < a := fun h4 => h ⟨h1, h2, h3, h4⟩
        clear h
        go_enter Try.func10, Try.ntmps10
        go_wp2
        exact bodyPost_ret (v := .tuple #[.pointer none, .int .i64 1]) (by simp [results, Try.results10, go_sem]) rfl ⟨rfl, rfl⟩
      · clear h
        go_enter Try.func10, Try.ntmps10
        go_wp2
        exact bodyPost_ret (v := .tuple #[.pointer none, .int .i64 1]) (by simp [results, Try.results10, go_sem]) rfl ⟨rfl, rfl⟩
    · clear h
      go_enter Try.func10, Try.ntmps10
      go_wp2
      exact bodyPost_ret (v := .tuple #[.pointer none, .int .i64 1]) (by simp [results, Try.results10, go_sem]) rfl ⟨rfl, rfl⟩
  · clear h
    go_enter Try.func10, Try.ntmps10
    go_wp2
    exact bodyPost_ret (v := .tuple #[.pointer none, .int .i64 1]) (by simp [results, Try.results10, go_sem]) rfl ⟨rfl, rfl⟩
end Go.Proofs.Ytkkeilbaieflmaa
