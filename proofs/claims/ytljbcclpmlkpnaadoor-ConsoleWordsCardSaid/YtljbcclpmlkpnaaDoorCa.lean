import Derived.KernelRfl
import Derived.Test.YtljbcclpmlkpnaaDoorNu
import Derived.Test.YtljbcclpmlkpnaaDoorTys
import Derived.Test.YtljbcclpmlkpnaaDoorKitVt
import Derived.Test.YtljbcclpmlkpnaaDoorKitVr
import Derived.Lib.AppendIntMem
/-
  Contracts of the library's functions, for the symbolic run.
-/
namespace Go.Proofs.YtljbcclpmlkpnaaDoor.V
open Go.RowKit Go.Proofs.YtljbcclpmlkpnaaDoor
set_option linter.unusedSimpArgs false
section
variable {F : Nat → Prop} {w : World}
theorem tab_of (h : GlOk F w) : Lib.TabIs Tryd.prog w "internal/strconv.uint64pow10" .u64 Lib.pow10Tab := by
  obtain ⟨_, _, _, ty, fz, h4⟩ := h.nums 1 20 .u64 _ rfl
  have hg : Tryd.prog.globalNamed "internal/strconv.uint64pow10" = some 1 := by kernel_rfl
  unfold Lib.TabIs World.var?
  rw [hg, Option.bind_some]
  simp only [h4]
  congr 1
theorem err_of {g : Nat} {n : String} (hm : ∀ p ∈ Gl, p.1 = g → p.2 = fun cs _ => ∃ tp p, cs = #[.iface tp p]) (hi : ∃ p ∈ Gl, p.1 = g) (hg : Tryd.prog.globalNamed n = some g) (h : GlOk F w) : ∃ tp p, w.var? Tryd.prog n = some #[.iface tp p] := by
  obtain ⟨p, hp, rfl⟩ := hi
  obtain ⟨_, cs, ty, fz, h2, h3⟩ := h.some_ p hp
  rw [hm p hp rfl] at h3
  obtain ⟨tp, q, rfl⟩ := h3
  refine ⟨tp, q, ?_⟩
  unfold World.var?
  rw [hg, Option.bind_some]
  simp only [h2]
theorem err5 (h : GlOk F w) : ∃ tp p, w.var? Tryd.prog "strconv.ErrSyntax" = some #[.iface tp p] :=
  err_of (g := 5) (by intro p hp e; simp only [Gl, List.mem_cons, List.not_mem_nil, or_false] at hp; rcases hp with rfl | rfl <;> rfl) ⟨_, List.mem_cons_self, rfl⟩ (by kernel_rfl) h
theorem err6 (h : GlOk F w) : ∃ tp p, w.var? Tryd.prog "strconv.ErrRange" = some #[.iface tp p] :=
  err_of (g := 6) (by intro p hp e; simp only [Gl, List.mem_cons, List.not_mem_nil, or_false] at hp; rcases hp with rfl | rfl <;> rfl) ⟨_, List.mem_cons_of_mem _ List.mem_cons_self, rfl⟩ (by kernel_rfl) h
end
theorem decB_size {n : Int} (h0 : -9223372036854775808 ≤ n) (h1 : n ≤ 9223372036854775807) : (decB n).size ≤ 21 := by
  have := Lib.itoa_length_le n h0 h1
  show (decB n).data.size ≤ 21
  simpa [decB] using this
theorem decB_max {n : Int} (h0 : -9223372036854775808 ≤ n) (h1 : n ≤ 9223372036854775807) : (decB n).size ≤ maxLen := Nat.le_trans (decB_size h0 h1) (by decide)
theorem below_grow (w : World) (k : Nat) (os : Array Obj) : Below w.heap.size w (Sort.grow (w.drewN k) os) := Lib.below_grow _ w (Nat.le_refl _) k os
theorem toList_data (s : ByteArray) : s.toList = s.data.toList := ByteArray.toList_eq s
/-- strconv.Itoa. -/
def itoaS (args : List Vl) : Option Rs := match args with
  | [.one c] => (match intV c with | some (.i64, n) => some (.v (.one (.val (.string (decB n))))) | _ => none)
  | _ => none
theorem v32 : Valid Tryd.prog 32 (.tot itoaS) := by
  refine ⟨call32, fun args r hS β F w vs hF hd => ?_⟩
  unfold itoaS at hS
  split at hS
  case h_2 => cases hS
  rename_i c
  split at hS
  case h_2 => cases hS
  rename_i n hn
  cases hS
  obtain ⟨u, r, rfl, h1, h2⟩ := hd
  obtain rfl : r = [] := h2
  obtain ⟨rfl, h0, h1⟩ := intV_dn hn h1
  refine ⟨.string (decB n), ⟨rfl, decB_max h0 h1⟩, fun w' hk hs => ?_⟩
  refine (Tryd.strconv_Itoa n h0 h1 w' (tab_of (hF.gl.ext (fun _ h => h) hk))).mono ?_
  rintro e w2 ⟨rfl, k, os, rfl⟩
  exact ⟨rfl, below_grow _ _ _⟩
/-- strconv.FormatUint(.., 10), of what is below 2^63. -/
def fuS (args : List Vl) : Option Rs := match args with
  | [.one c, .one d] => (match intV c, intV d with | some (.u64, n), some (.i64, 10) => some (.v (.one (.val (.string (decB n))))) | _, _ => none)
  | _ => none
theorem decB_u {u : Nat} : decB (u : Int) = ⟨(Lib.decDigits u).toArray⟩ := by rw [decB, Lib.itoa_nonneg]
theorem v45 : Valid Tryd.prog 45 (.tot fuS) := by
  refine ⟨call45, fun args r hS β F w vs hF hd => ?_⟩
  unfold fuS at hS
  split at hS
  case h_2 => cases hS
  rename_i c d
  split at hS
  case h_2 => cases hS
  rename_i n hn hd10
  cases hS
  obtain ⟨u, r, rfl, h1, u2, r2, rfl, h2, h3⟩ := hd
  obtain rfl : r2 = [] := h3
  obtain ⟨rfl, h0, h1⟩ := intV_dn hn h1
  obtain ⟨rfl, _⟩ := intV_dn hd10 h2
  obtain ⟨m, rfl⟩ : ∃ m : Nat, n = m := ⟨n.toNat, by omega⟩
  refine ⟨.string (decB m), ⟨rfl, ?_⟩, fun w' hk hs => ?_⟩
  · rw [decB_u]
    have := Lib.nDigits_le20 m (by omega)
    rw [← Lib.decDigits_length] at this
    show (ByteArray.mk _).size ≤ _
    have e : (ByteArray.mk (Lib.decDigits m).toArray).size = (Lib.decDigits m).length := by show Array.size _ = _; simp
    rw [e]
    exact Nat.le_trans this (by decide)
  · refine (formatUint m (by omega) w' (tab_of (hF.gl.ext (fun _ h => h) hk))).mono ?_
    rintro e w2 ⟨rfl, k, os, rfl⟩
    exact ⟨by rw [decB_u], below_grow _ _ _⟩
/-- strings.Join. -/
def joinB (l : List ByteArray) (sep : ByteArray) : ByteArray := ⟨(Lib.join (l.map (·.data.toList)) sep.data.toList).toArray⟩
def joinS (args : List Vl) (K : Rs → Prop) : Prop := match args with
  | [.one (.rd .str l), .one (.val (.string sep))] => (joinB l sep).size ≤ 1000000 ∧ l.length ≤ 1000000 ∧ K (.v (.one (.val (.string (joinB l sep)))))
  | _ => False
theorem v33 : Valid Tryd.prog 33 (.pre joinS) := by
  refine ⟨call33, fun args K hS β F w vs hF hd => ?_⟩
  unfold joinS at hS
  split at hS
  case h_2 => exact hS.elim
  rename_i l sep
  obtain ⟨hsz, hll, hK⟩ := hS
  have hsm : (joinB l sep).size ≤ maxLen := Nat.le_trans hsz (by decide)
  obtain ⟨u, r, rfl, h1, u2, r2, rfl, ⟨rfl, h2⟩, h3⟩ := hd
  obtain rfl : r2 = [] := h3
  obtain ⟨ad, cap, e, c1, c2, c3, c4⟩ := h1
  cases e
  have hln : (Lib.join (l.map (·.data.toList)) sep.data.toList).length ≤ 140737488355328 := by
    have e : (joinB l sep).size = (Lib.join (l.map (·.data.toList)) sep.data.toList).length := by show Array.size _ = _; simp
    rw [← e]
    exact Nat.le_trans hsz (by decide)
  cases l with
  | nil =>
    refine (Tryd.strings_Join_none ad cap sep w).mono ?_
    rintro e w2 ⟨rfl, rfl⟩
    exact ⟨_, _, F, rfl, hK, Below.refl _ _, fun _ h => h, fun _ h => .inl h, rfl, hsm⟩
  | cons x l =>
    obtain ⟨g, o, rfl, hg, hc⟩ := c4 (by simp)
    refine (Tryd.strings_Join g o cap (x :: l) sep w (fun j y hy => ?_) (hF.lt g hg) (Nat.le_trans hll (by decide)) c1 hln).mono ?_
    · obtain ⟨cs, ⟨rfl, _⟩, hcs⟩ := hc j y hy
      have := hcs 0 _ rfl
      simpa [Sh.size] using this
    · rintro e w2 ⟨rfl, hb⟩
      exact ⟨_, _, F, rfl, hK, hb, fun _ h => h, fun _ h => .inl h, rfl, hsm⟩
/-- console.number. -/
def numS (args : List Vl) (K : Rs → Prop) : Prop := match args with
  | [.one (.val (.string w))] => w.size ≤ 1000000 ∧ K (.tup [.one (.val (.int .i64 (numB w).1)), .one (.val (.bool (numB w).2))])
  | _ => False
theorem number_walk (s : ByteArray) (hs : s.size ≤ 1000000) (w : World) (htab : ∀ w', Below w.heap.size w w' → Lib.TabIs Tryd.prog w' "internal/strconv.uint64pow10" .u64 Lib.pow10Tab) (h5 : ∃ tp p, w.var? Tryd.prog "strconv.ErrSyntax" = some #[.iface tp p]) (h6 : ∃ tp p, w.var? Tryd.prog "strconv.ErrRange" = some #[.iface tp p]) :
    Calls Tryd.prog 46 #[.string s] w fun e w' => e = .returned (.tuple #[.int .i64 (numB s).1, .bool (numB s).2]) ∧ Below w.heap.size w w' := by
  have hm : s.size ≤ 281474976710656 := Nat.le_trans hs (by decide)
  have e54 : ∀ args w, (callFunc 54 args).run Tryd.prog w = .ok (.enter 54 args) w := enters_of Tryd.func54 (by kernel_rfl) rfl
  have e55 : ∀ args w, (callFunc 55 args).run Tryd.prog w = .ok (.enter 55 args) w := enters_of Tryd.func55 (by kernel_rfl) rfl
  cases hp : Lib.parseIntB 64 s.data.toList with
  | ok v =>
    have hb := Lib.parseIntB_bounds hp
    have e2 : numB s = (v, (decB v).data.toList == s.data.toList) := by rw [numB, hp]
    rw [e2]
    go_enter Tryd.func46, Tryd.ntmps46
    go_wp2_with (go_at_fn 54; refine (Tryd.strconv_ParseInt_10_at64_ok s (by omega) v hp _).mono ?_; rintro e w' ⟨rfl, hw⟩)
    have hb2 : Below w.heap.size w w' := by
      rcases hw with rfl | ⟨t, rfl⟩
      · exact Below.refl _ _
      · exact Lib.bytesWorld_below _ _ _
    go_wp2_with (go_at_fn 55; refine (Tryd.strconv_FormatInt_10 v (by omega) (by omega) _ (htab _ hb2)).mono ?_; rintro e w2 ⟨rfl, k, os, rfl⟩)
    go_ret2
    refine ⟨?_, hb2.trans ((below_grow w' k os).mono hb2.size)⟩
    rw [decB_list, ← toList_data]
    rfl
  | range =>
    have e2 : numB s = (Lib.intSat 64 s.data.toList, false) := by rw [numB, hp]
    rw [e2]
    obtain ⟨tp, p, h6⟩ := h6
    go_enter Tryd.func46, Tryd.ntmps46
    go_wp2_with (go_at_fn 54; refine (Tryd.strconv_ParseInt_10_at64_range_var s hm hp tp p _ h6).mono ?_; rintro e w' ⟨N, rfl, hN, hc, hb⟩)
    go_wp2
    go_ret2
    exact ⟨rfl, hb⟩
  | _ =>
    have e2 : numB s = (0, false) := by rw [numB, hp]
    rw [e2]
    obtain ⟨tp, p, h5⟩ := h5
    go_enter Tryd.func46, Tryd.ntmps46
    go_wp2_with (go_at_fn 54; refine (Tryd.strconv_ParseInt_10_at64_syntax_var s hm hp tp p _ h5).mono ?_; rintro e w' ⟨N, rfl, hN, hc, hb⟩)
    go_wp2
    go_ret2
    exact ⟨rfl, hb⟩
theorem v46 : Valid Tryd.prog 46 (.pre numS) := by
  refine ⟨call46, fun args K hS β F w vs hF hd => ?_⟩
  unfold numS at hS
  split at hS
  case h_2 => exact hS.elim
  rename_i s
  obtain ⟨hsz, hK⟩ := hS
  obtain ⟨u, r, rfl, ⟨rfl, h1⟩, h2⟩ := hd
  obtain rfl : r = [] := h2
  have gl : ∀ w', Below w.heap.size w w' → GlOk F w' := fun w' hb => hF.gl.ext (fun _ h => h) (fun k hk => hb.block k (hF.lt k hk))
  refine (number_walk s hsz w (fun w' hb => tab_of (gl w' hb)) (err5 hF.gl) (err6 hF.gl)).mono ?_
  rintro e w2 ⟨rfl, hb⟩
  have hn := numB_bd s
  exact ⟨_, _, F, rfl, hK, hb, fun _ h => h, fun _ h => .inl h, [_, _], rfl, _, _, rfl, ⟨rfl, hn⟩, _, _, rfl, ⟨rfl, trivial⟩, rfl⟩
end Go.Proofs.YtljbcclpmlkpnaaDoor.V
