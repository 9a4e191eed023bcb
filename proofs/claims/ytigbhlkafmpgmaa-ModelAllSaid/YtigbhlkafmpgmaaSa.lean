import Derived.Test.YtigbhlkafmpgmaaTys
import Derived.Test.YtigbhlkafmpgmaaKitVB
import Derived.Test.YtigbhlkafmpgmaaRunA
namespace Go.Proofs.Ytigbhlkafmpgmaa.V
open Go.RowKit Go.Proofs.Ytigbhlkafmpgmaa
set_option linter.unusedSimpArgs false
abbrev noLoop : Nat → Option LoopSp := fun _ => none
abbrev vi (z : Int) : CV := .val (.int .i64 z)
abbrev shU : Sh := .int .u64
abbrev shO : Sh := .pair (.int .i64) (.pair (.int .i64) (.int .u64))
abbrev shT : Sh := .pair (.sl shO) .bool
abbrev ON := Int × Int × Int
abbrev TN := List ON × Bool
abbrev pI : PS := (false, .int .i64)
abbrev pB : PS := (false, .bool)
abbrev pUs : PS := (false, .sl shU)
abbrev pT : PS := (true, shT)
abbrev pTs : PS := (false, .sl shT)
abbrev inl1 (f : Nat) (fn : Func) (L : List (Nat × Spec)) : Nat × Spec := (f, .full (inl Tbl (spL L) fn noLp))
def toOp (x : ON) : Op := ⟨x.1, x.2.1, x.2.2⟩
def allT (m : List Int) (room : Int) (t : TN) : List Int × List Int × Int := allS m room (t.1.map toOp) t.2
theorem rdl_u {w : World} {F : Nat → Prop} : ∀ {l : List Int} {vs : List Value}, RdL w F shU l vs → vs = encU l ∧ ∀ x ∈ l, inR .u64 x
  | [], vs, h => ⟨h, fun x hx => by cases hx⟩
  | x :: l, vs, h => by
    obtain ⟨c, r, rfl, ⟨rfl, h1⟩, h2⟩ := h
    obtain ⟨rfl, h3⟩ := rdl_u h2
    refine ⟨rfl, fun y hy => ?_⟩
    rcases List.mem_cons.1 hy with rfl | hy
    · exact h1
    · exact h3 y hy
theorem rdl_o {w : World} {F : Nat → Prop} : ∀ {l : List ON} {vs : List Value}, RdL w F shO l vs → vs = encOs (l.map toOp) ∧ ∀ x ∈ l, inR .u64 x.2.2
  | [], vs, h => ⟨h, fun x hx => by cases hx⟩
  | x :: l, vs, h => by
    obtain ⟨c, r, rfl, ⟨c1, c2, rfl, ⟨rfl, q1⟩, c3, c4, rfl, ⟨rfl, q2⟩, rfl, q3⟩, h2⟩ := h
    obtain ⟨rfl, h3⟩ := rdl_o h2
    refine ⟨rfl, fun y hy => ?_⟩
    rcases List.mem_cons.1 hy with rfl | hy
    · exact q3
    · exact h3 y hy
theorem u_rdl {w : World} {F : Nat → Prop} : ∀ {l : List Int}, (∀ x ∈ l, inR .u64 x) → RdL w F shU l (encU l)
  | [], h => rfl
  | x :: l, h => ⟨_, _, rfl, ⟨rfl, h x (List.mem_cons_self ..)⟩, u_rdl fun y hy => h y (List.mem_cons_of_mem _ hy)⟩
def Us (l : List Int) : Prop := ∀ x ∈ l, inR .u64 x
theorem Us.app {l m : List Int} (h : Us l) (k : Us m) : Us (l ++ m) := fun x hx => (List.mem_append.1 hx).elim (h x) (k x)
theorem Us.one {v : Int} (h : inR .u64 v) : Us [v] := fun x hx => by simp at hx; rw [hx]; exact h
theorem Us.set {l : List Int} (h : Us l) (i : Nat) {v : Int} (hv : inR .u64 v) : Us (l.set i v) := fun x hx => by
  rcases List.mem_or_eq_of_mem_set hx with h1 | rfl
  · exact h x h1
  · exact hv
theorem Us.getD {l : List Int} (h : Us l) (i : Nat) : inR .u64 (l.getD i 0) := by
  unfold List.getD
  cases hi : l[i]? with
  | none => exact ⟨Int.le_refl _, by decide⟩
  | some y => exact h y (List.mem_of_getElem? hi)
theorem stepS_us {room : Int} {cur : List Int} {n : Nat} {tells : List Int} {o : Op} (h1 : Us cur) (h2 : Us tells) (h3 : inR .u64 o.v) : Us (stepS room cur n tells o).2.1 ∧ Us (stepS room cur n tells o).2.2.2 := by
  unfold stepS
  repeat' split
  · exact ⟨h1, h2.app (Us.one (h1.getD _))⟩
  · exact ⟨h1, h2.app (Us.one ⟨Int.le_refl _, by decide⟩)⟩
  · exact ⟨h1, h2⟩
  · exact ⟨h1.set _ h3, h2⟩
  · exact ⟨h1.set _ (inR_wrap .u64 _), h2.app (Us.one (inR_wrap .u64 _))⟩
  · exact ⟨h1.set _ h3, h2.app (Us.one ⟨by decide, by decide⟩)⟩
theorem runS_us {room : Int} {len : Nat} : ∀ {ops : List Op} {cur : List Int} {n : Nat} {tells : List Int}, (∀ o ∈ ops, inR .u64 o.v) → Us cur → Us tells → Us (runS room len ops cur n tells).2.1 ∧ Us (runS room len ops cur n tells).2.2
  | [], cur, n, tells, h, h1, h2 => ⟨h1, h2⟩
  | o :: r, cur, n, tells, h, h1, h2 => by
    have hs := stepS_us (room := room) (n := n) h1 h2 (h o (List.mem_cons_self ..))
    unfold runS
    split
    · exact ⟨h1, h2⟩
    · split
      · rename_i c n' t' e
        rw [e] at hs
        exact runS_us (fun o ho => h o (List.mem_cons_of_mem _ ho)) hs.1 hs.2
      · rename_i c n' t' e
        rw [e] at hs
        exact hs
theorem runS_code {room : Int} {len : Nat} : ∀ {ops : List Op} {cur : List Int} {n : Nat} {tells : List Int}, 0 ≤ (runS room len ops cur n tells).1 ∧ (runS room len ops cur n tells).1 ≤ 103
  | [], cur, n, tells => ⟨Int.le_refl _, by simp [runS]⟩
  | o :: r, cur, n, tells => by
    unfold runS
    split
    · simp
    · split
      · exact runS_code
      · simp
theorem allT_us {m : List Int} {room : Int} {t : TN} (hm : Us m) (ht : ∀ x ∈ t.1, inR .u64 x.2.2) : Us (allT m room t).1 ∧ Us (allT m room t).2.1 := by
  unfold allT allS
  split
  · split
    · exact ⟨fun x hx => (by cases hx), fun x hx => (by cases hx)⟩
    · have ho : ∀ o ∈ t.1.map toOp, inR .u64 o.v := fun o ho => by
        obtain ⟨x, hx, rfl⟩ := List.mem_map.1 ho
        exact ht x hx
      obtain ⟨h1, h2⟩ := runS_us (room := room) (len := m.length) (n := 0) ho hm (tells := []) (fun x hx => by cases hx)
      refine ⟨?_, ?_⟩
      · show Us (outS _ _ _ _)
        unfold outS
        split
        · exact h1
        · exact hm
      · refine h2.app (Us.one ?_)
        have := runS_code (room := room) (len := m.length) (ops := t.1.map toOp) (cur := m) (n := 0) (tells := [])
        unfold endC
        simp only [inR]
        repeat' split
        all_goals omega
  · exact ⟨fun x hx => (by cases hx), fun x hx => (by cases hx)⟩
theorem Own.base0 {w : World} {b : Nat} {e : TypeId} {sz : Nat} {v : Value} {n : Nat} {xs : List Value} (h : Own w b e sz v n xs) : Own w 0 e sz v n xs := by
  refine ⟨h.1, ?_⟩
  rcases h.2 with h | ⟨g, o, cap, cur, e, -, h⟩
  · exact .inl h
  · exact .inr ⟨g, o, cap, cur, e, Nat.zero_le _, h⟩
theorem v9 : Valid Try.prog 9 (.pre (gS [pUs, pI, pT] [pUs, pUs, pI] (fun x => allT x.1 x.2.1 x.2.2))) := by
  refine ⟨call9, fun args K hS β F w vs hF hd => ?_⟩
  unfold gS at hS
  split at hS
  case h_2 => exact hS.elim
  rename_i x hx
  obtain ⟨m, room, ops, ab⟩ := x
  have S0 := sat_start w F hF
  obtain ⟨u1, r1, rfl, h1, u2, r2, rfl, ⟨rfl, h2⟩, u3, r3, rfl, h3, h4⟩ := deVs_ok hx hd
  obtain rfl : r3 = [] := h4
  obtain ⟨l3, rfl, h3⟩ := h3
  obtain ⟨q1, q2, rfl, ⟨u4, rfl, h5, h6⟩, q3, q4, rfl, ⟨u5, rfl, ⟨rfl, -⟩, -⟩, rfl⟩ := h3
  obtain ⟨n1, a1, a2, -⟩ := srcOf_ok S0 (c := .rd shU m) rfl (noId_dn (β := β) (β' := fun _ => none) (c := .rd shU m) rfl (fun _ h => h) (fun _ _ => rfl) h1)
  obtain ⟨n2, b1, b2, -⟩ := srcOf_ok S0 (c := .rd shO ops) rfl (noId_dn (β := β) (β' := fun _ => none) (c := .rd shO ops) rfl (fun _ h => h) (fun _ _ => rfl) h5)
  obtain ⟨rfl, e1⟩ := rdl_u a2
  obtain ⟨rfl, e2⟩ := rdl_o b2
  obtain ⟨ad1, c1, g1⟩ : ∃ ad c, u1 = .slice ad m.length c := by obtain ⟨-, a, c, e, -⟩ := a1; exact ⟨a, c, e⟩
  obtain ⟨ad2, c2, g2⟩ : ∃ ad c, u4 = .slice ad ops.length c := by obtain ⟨-, a, c, e, -⟩ := b1; exact ⟨a, c, e⟩
  subst g1
  subst g2
  have hl : ops.length = (ops.map toOp).length := by simp
  have hok : ∀ o ∈ ops.map toOp, (Lit.int .u64 o.v).wf = true := fun o ho => by
    obtain ⟨x, hx, rfl⟩ := List.mem_map.1 ho
    exact inR_wf.1 (e2 x hx)
  rw [hl] at b1
  have R := run_all ad2 c2 ab (ops.map toOp) ad1 c1 m room w b1 a1 hok
  rw [← hl] at R
  refine R.mono ?_
  rintro e w' ⟨v1, v2, rfl, O1, O2, hb⟩
  obtain ⟨us1, us2⟩ := allT_us (room := room) (t := (ops, ab)) e1 e2
  refine ⟨_, _, fun k => F k ∨ v1.ownBlock = some k ∨ v2.ownBlock = some k, rfl, hS, hb, fun k hk => .inl hk, fun k hk => ?_, _, rfl, _, _, rfl, ?_, _, _, rfl, ?_, _, _, rfl, ⟨rfl, ?_⟩, rfl⟩
  · rcases hk with hk | hk | hk
    · exact .inl hk
    · exact .inr (O1.lt k hk)
    · exact .inr (O2.lt k hk)
  · exact own_rd (F := F) (a := shU) (Own.base0 O1) (u_rdl us1) (fun k hk => .inl hk) (fun k hk => .inr (.inl hk))
  · exact own_rd (F := F) (a := shU) (Own.base0 O2) (u_rdl us2) (fun k hk => .inl hk) (fun k hk => .inr (.inr hk))
  · show inR .i64 (allS m room (ops.map toOp) ab).2.2
    unfold allS
    repeat' split
    all_goals simp [inR]
end Go.Proofs.Ytigbhlkafmpgmaa.V
