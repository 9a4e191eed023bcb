/-
  A symbolic run of a function's text: functions that only compute or read, and hand back what is their own.
-/
import Derived.Test.YtnbbooilapelmaaGreatDoorKitVi
set_option linter.unusedVariables false
set_option linter.unusedSimpArgs false
namespace Go.Proofs.YtnbbooilapelmaaGreatDoor.V
open Go.RowKit Go.Proofs.YtnbbooilapelmaaGreatDoor
def noId : CV → Bool | .ptr .. => false | .sl _ => false | .ep .. => false | .sv .. => false | .pa .. => false | .ea .. => false | .fn .. => false | .mv _ => false | _ => true
def noIdL : List CV → Bool | [] => true | c :: r => noId c && noIdL r
def noIdV : Vl → Bool | .one c => noId c | .agg l => noIdL l
def noIdVs : List Vl → Bool | [] => true | c :: r => noIdV c && noIdVs r
/-- A function whose answer is fixed, with new memory in it. -/
def preO (S : List Vl → Option Rs) (args : List Vl) (K : Rs → Prop) : Prop := match S args with | some r => K r | none => False
section
variable {β β' : Nat → Option Value} {F F' : Nat → Prop} {w w' : World}
theorem noId_dn {c : CV} (h : noId c = true) (hF : ∀ k, F k → F' k) (hk : ∀ k, F k → w'.heap[k]? = w.heap[k]?) {u : Value} (hd : Dn β F w c u) : Dn β' F' w' c u := by
  have x : Ext β F w β F' w' := ⟨fun _ _ h => h, hF, hk⟩
  have hd := Dn.ext x hd
  cases c <;> first | exact hd | cases h
theorem noIdC_dn {c : CV} (h : noId c = true) (hF : ∀ k, F k → F' k) (hk : ∀ k, F k → w'.heap[k]? = w.heap[k]?) {l : List Value} (hd : DnC β F w c l) : DnC β' F' w' c l := by
  cases c <;> first | exact hd | (obtain ⟨u, h1, h2, h3⟩ := hd; exact ⟨u, h1, noId_dn h hF hk h2, h3⟩) | cases h
theorem noIdL_dn (hF : ∀ k, F k → F' k) (hk : ∀ k, F k → w'.heap[k]? = w.heap[k]?) : ∀ {c : List CV} {l : List Value}, noIdL c = true → DnL β F w c l → DnL β' F' w' c l
  | [], l, _, h => h
  | c :: r, l, h, hd => by
    simp only [noIdL, Bool.and_eq_true] at h
    obtain ⟨a, b, e, h1, h2⟩ := hd
    exact ⟨a, b, e, noIdC_dn h.1 hF hk h1, noIdL_dn hF hk h.2 h2⟩
theorem noIdV_dn (hF : ∀ k, F k → F' k) (hk : ∀ k, F k → w'.heap[k]? = w.heap[k]?) {c : Vl} {u : Value} (h : noIdV c = true) (hd : DnV β F w c u) : DnV β' F' w' c u := by
  cases c with
  | one c => exact noId_dn h hF hk hd
  | agg l => obtain ⟨vs, e, hd⟩ := hd; exact ⟨vs, e, noIdL_dn hF hk h hd⟩
theorem noIdVs_dn (hF : ∀ k, F k → F' k) (hk : ∀ k, F k → w'.heap[k]? = w.heap[k]?) : ∀ {c : List Vl} {l : List Value}, noIdVs c = true → DnVs β F w c l → DnVs β' F' w' c l
  | [], l, _, h => h
  | c :: r, l, h, hd => by
    simp only [noIdVs, Bool.and_eq_true] at h
    obtain ⟨a, b, e, h1, h2⟩ := hd
    exact ⟨a, b, e, noIdV_dn hF hk h.1 h1, noIdVs_dn hF hk h.2 h2⟩
theorem clo_uniq {c : CV} {l m : List Value} (h : clo c = some m) (hd : DnC β F w c l) : l = m := by
  cases c <;> simp only [clo] at h <;> cases h
  · obtain ⟨u, rfl, ⟨rfl, _⟩, _⟩ := hd; rfl
  · obtain ⟨u, rfl, ⟨rfl, _⟩, _⟩ := hd; rfl
  · obtain ⟨u, rfl, h, _⟩ := hd; rw [show u = _ from h]
  · exact hd.2.1
theorem clo_one {c : CV} {m : List Value} (h : clo c = some m) {u : Value} (hd : Dn β F w c u) : m = [u] := by
  cases c <;> simp only [clo] at h <;> cases h
  · rw [hd.1]
  · rw [hd.1]
  · rw [show u = _ from hd]
  · exact hd.elim
theorem cloL_uniq : ∀ {c : List CV} {l m : List Value}, cloL c = some m → DnL β F w c l → l = m
  | [], l, m, h, hd => by simp only [cloL] at h; cases h; exact hd
  | c :: r, l, m, h, hd => by
    simp only [cloL] at h
    split at h
    · rename_i a b h1 h2
      cases h
      obtain ⟨a', b', rfl, d1, d2⟩ := hd
      rw [clo_uniq h1 d1, cloL_uniq h2 d2]
    · cases h
theorem cloV_uniq {c : Vl} {u v : Value} (h : cloV c = some v) (hd : DnV β F w c u) : u = v := by
  cases c with
  | one c =>
    simp only [cloV] at h
    split at h
    · rename_i v' h1
      cases h
      have := clo_one h1 hd
      cases this; rfl
    · cases h
  | agg l =>
    simp only [cloV] at h
    split at h
    · rename_i vs h1
      cases h
      obtain ⟨us, rfl, hd⟩ := hd
      rw [cloL_uniq h1 hd]
    · cases h
theorem cloVs_uniq : ∀ {c : List Vl} {l m : List Value}, cloVs c = some m → DnVs β F w c l → l = m
  | [], l, m, h, hd => by simp only [cloVs] at h; cases h; exact hd
  | c :: r, l, m, h, hd => by
    simp only [cloVs] at h
    split at h
    · rename_i a b h1 h2
      cases h
      obtain ⟨a', b', rfl, d1, d2⟩ := hd
      rw [cloV_uniq h1 d1, cloVs_uniq h2 d2]
    · cases h
theorem cloR_uniq {c : Rs} {u v : Value} (h : cloR c = some v) (hd : DnR β F w c u) : u = v := by
  cases c with
  | v c => exact cloV_uniq h hd
  | tup l =>
    simp only [cloR] at h
    split at h
    · rename_i vs h1
      cases h
      obtain ⟨us, rfl, hd⟩ := hd
      rw [cloVs_uniq h1 hd]
    · cases h
theorem clo_noId {c : CV} {m : List Value} (h : clo c = some m) : noId c = true := by cases c <;> first | rfl | cases h
theorem cloL_noId : ∀ {c : List CV} {m : List Value}, cloL c = some m → noIdL c = true
  | [], m, h => rfl
  | c :: r, m, h => by
    simp only [cloL] at h
    split at h
    · rename_i a b h1 h2; simp [noIdL, clo_noId h1, cloL_noId h2]
    · cases h
theorem cloV_noId {c : Vl} {m : Value} (h : cloV c = some m) : noIdV c = true := by
  cases c with
  | one c =>
    simp only [cloV] at h
    split at h
    · rename_i v h1; exact clo_noId h1
    · cases h
  | agg l =>
    simp only [cloV] at h
    split at h
    · rename_i v h1; exact cloL_noId h1
    · cases h
theorem cloVs_noId : ∀ {c : List Vl} {m : List Value}, cloVs c = some m → noIdVs c = true
  | [], m, h => rfl
  | c :: r, m, h => by
    simp only [cloVs] at h
    split at h
    · rename_i a b h1 h2; simp [noIdVs, cloV_noId h1, cloVs_noId h2]
    · cases h
theorem own_bk {v : Value} {k : Nat} (h : v.ownBlock = some k) : bk (some v) = some k := by
  unfold Value.ownBlock at h
  split at h
  · cases h; rfl
  · cases h
end
/-- The result of the spec against the result of the run; slices of the run's own are read from now on. -/
def fzC (st : St) (fz : List Nat) (t c : CV) (K : List Nat → Prop) : Prop :=
  match t, c with
  | .rd a x, .sl j => (match look st.h j with
    | some (.own _ b ys) => (match eqSh b a with | true => HEq ys x ∧ K (j :: fz) | false => False)
    | _ => False)
  | .rd a x, .sv j sz lo n => (match look st.h j with
    | some (.own _ b ys) => (match eqSh b a, Nat.beq sz b.size with | true, true => (lo + n ≤ ys.length ∧ HEq ((ys.drop lo).take n) x) ∧ K (j :: fz) | _, _ => False)
    | _ => False)
  | t, c => (match noId t with | true => mtC [] t c fun _ => K fz | false => False)
def fzL (st : St) : List Nat → List CV → List CV → (List Nat → Prop) → Prop
  | fz, [], [], K => K fz
  | fz, t :: r, c :: s, K => fzC st fz t c fun fz' => fzL st fz' r s K
  | _, _, _, _ => False
def fzV (st : St) (fz : List Nat) (t c : Vl) (K : List Nat → Prop) : Prop :=
  match t, c with
  | .one t, .one c => fzC st fz t c K
  | .agg t, .agg c => fzL st fz t c K
  | _, _ => False
def fzVs (st : St) : List Nat → List Vl → List Vl → (List Nat → Prop) → Prop
  | fz, [], [], K => K fz
  | fz, t :: r, c :: s, K => fzV st fz t c fun fz' => fzVs st fz' r s K
  | _, _, _, _ => False
def fzR (st : St) (t c : Rs) : Prop :=
  match t, c with
  | .v t, .v c => fzV st [] t c fun _ => True
  | .tup t, .tup c => fzVs st [] t c fun _ => True
  | _, _ => False
/-- What is read from now on. -/
def Fz (β : Nat → Option Value) (F : Nat → Prop) (fz : List Nat) : Nat → Prop := fun k => F k ∨ ∃ j ∈ fz, bk (β j) = some k
section
variable {β : Nat → Option Value} {F : Nat → Prop} {w : World} {st : St} {B : Base}
theorem Fz.mono {fz fz' : List Nat} (h : ∀ j ∈ fz, j ∈ fz') : ∀ k, Fz β F fz k → Fz β F fz' k := fun k hk => hk.imp id fun ⟨j, h1, h2⟩ => ⟨j, h j h1, h2⟩
theorem Fz.ext {fz fz' : List Nat} (h : ∀ j ∈ fz, j ∈ fz') (β' : Nat → Option Value) : Ext β' (Fz β F fz) w β' (Fz β F fz') w := ⟨fun _ _ h => h, Fz.mono h, fun _ _ => rfl⟩
theorem fzC_ok (hw : Sat B β F st w) {fz : List Nat} {t c : CV} {K : List Nat → Prop} (h : fzC st fz t c K) : ∃ fz', K fz' ∧ (∀ j ∈ fz, j ∈ fz') ∧ (∀ j ∈ fz', j ∈ fz ∨ ∃ ck, (j, ck) ∈ st.h) ∧ (∀ β' u, Dn β F w c u → Dn β' (Fz β F fz') w t u) ∧ ∀ β' l, DnC β F w c l → DnC β' (Fz β F fz') w t l := by
  unfold fzC at h
  split at h
  · rename_i a x j
    split at h
    · rename_i ty b ys hl
      split at h
      · rename_i e
        have := eqSh_eq e
        subst this
        obtain ⟨h1, h2⟩ := h
        have := eq_of_heq h1
        subst this
        obtain ⟨v, vs, g1, g2, g3⟩ := hw.cks _ (look_mem hl)
        have key : ∀ β' u, Dn β F w (.sl j) u → Dn β' (Fz β F (j :: fz)) w (.rd b ys) u := fun β' u hu => by
          obtain ⟨hu1, _⟩ := hu
          rw [g1] at hu1
          cases hu1
          refine own_rd g2 g3 (fun k hk => .inl hk) fun k hk => .inr ⟨j, by simp, ?_⟩
          rw [g1]
          exact own_bk hk
        exact ⟨_, h2, fun j' hj => by simp [hj], fun j' hj => by
          rcases List.mem_cons.1 hj with rfl | hj
          · exact .inr ⟨_, look_mem hl⟩
          · exact .inl hj, key, fun β' l ⟨u, e1, e2, e3⟩ => ⟨u, e1, key β' u e2, e3⟩⟩
      · exact h.elim
    · exact h.elim
  · rename_i a x j sz lo n
    split at h
    · rename_i ty b ys hl
      split at h
      · rename_i e hsz
        have := eqSh_eq e
        subst this
        have hsz := Nat.eq_of_beq_eq_true hsz
        subst hsz
        obtain ⟨⟨hle, h1⟩, h2⟩ := h
        have := eq_of_heq h1
        subst this
        obtain ⟨v, vs, g1, g2, g3⟩ := hw.cks _ (look_mem hl)
        have key : ∀ β' u, Dn β F w (.sv j b.size lo n) u → Dn β' (Fz β F (j :: fz)) w (.rd b ((ys.drop lo).take n)) u := fun β' u hu => by
          obtain ⟨q, hu1, hs⟩ := hu
          rw [g1] at hu1
          cases hu1
          obtain ⟨q1, q2, q3, q4⟩ := sv_own g2 g3 hs hle
          refine own_rd (by rw [q3]; exact q1) q2 (fun k hk => .inl hk) fun k hk => .inr ⟨j, by simp, ?_⟩
          rw [g1]
          exact own_bk (q4 k hk)
        exact ⟨_, h2, fun j' hj => by simp [hj], fun j' hj => by
          rcases List.mem_cons.1 hj with rfl | hj
          · exact .inr ⟨_, look_mem hl⟩
          · exact .inl hj, key, fun β' l ⟨u, e1, e2, e3⟩ => ⟨u, e1, key β' u e2, e3⟩⟩
      · exact h.elim
    · exact h.elim
  · split at h
    · rename_i hn
      obtain ⟨ρ', k1, _, k3, k4⟩ := mtC_ok (β := β) (F := F) (w := w) h
      exact ⟨fz, k1, fun _ h => h, fun _ h => .inl h, fun β' u hu => noId_dn hn (fun k hk => .inl hk) (fun _ _ => rfl) (k3 u hu), fun β' l hl => noIdC_dn hn (fun k hk => .inl hk) (fun _ _ => rfl) (k4 l hl)⟩
    · exact h.elim
theorem fzL_ok (hw : Sat B β F st w) : ∀ {fz : List Nat} {t c : List CV} {K : List Nat → Prop}, fzL st fz t c K → ∃ fz', K fz' ∧ (∀ j ∈ fz, j ∈ fz') ∧ (∀ j ∈ fz', j ∈ fz ∨ ∃ ck, (j, ck) ∈ st.h) ∧ ∀ β' l, DnL β F w c l → DnL β' (Fz β F fz') w t l
  | fz, [], [], K, h => ⟨fz, h, fun _ h => h, fun _ h => .inl h, fun _ _ h => h⟩
  | fz, t :: r, c :: s, K, h => by
    obtain ⟨f1, a1, a2, a3, _, a5⟩ := fzC_ok hw h
    obtain ⟨f2, b1, b2, b3, b4⟩ := fzL_ok hw a1
    refine ⟨f2, b1, fun j hj => b2 j (a2 j hj), fun j hj => ?_, fun β' l ⟨a, b, e, h1, h2⟩ => ⟨a, b, e, (a5 β' a h1).ext (Fz.ext b2 β'), b4 β' b h2⟩⟩
    rcases b3 j hj with h | h
    · exact a3 j h
    · exact .inr h
theorem fzV_ok (hw : Sat B β F st w) {fz : List Nat} {t c : Vl} {K : List Nat → Prop} (h : fzV st fz t c K) : ∃ fz', K fz' ∧ (∀ j ∈ fz, j ∈ fz') ∧ (∀ j ∈ fz', j ∈ fz ∨ ∃ ck, (j, ck) ∈ st.h) ∧ ∀ β' u, DnV β F w c u → DnV β' (Fz β F fz') w t u := by
  unfold fzV at h
  split at h
  · obtain ⟨f1, a1, a2, a3, a4, _⟩ := fzC_ok hw h
    exact ⟨f1, a1, a2, a3, a4⟩
  · obtain ⟨f1, a1, a2, a3, a4⟩ := fzL_ok hw h
    exact ⟨f1, a1, a2, a3, fun β' u ⟨vs, e, hd⟩ => ⟨vs, e, a4 β' vs hd⟩⟩
  · exact h.elim
theorem fzVs_ok (hw : Sat B β F st w) : ∀ {fz : List Nat} {t c : List Vl} {K : List Nat → Prop}, fzVs st fz t c K → ∃ fz', K fz' ∧ (∀ j ∈ fz, j ∈ fz') ∧ (∀ j ∈ fz', j ∈ fz ∨ ∃ ck, (j, ck) ∈ st.h) ∧ ∀ β' l, DnVs β F w c l → DnVs β' (Fz β F fz') w t l
  | fz, [], [], K, h => ⟨fz, h, fun _ h => h, fun _ h => .inl h, fun _ _ h => h⟩
  | fz, t :: r, c :: s, K, h => by
    obtain ⟨f1, a1, a2, a3, a5⟩ := fzV_ok hw h
    obtain ⟨f2, b1, b2, b3, b4⟩ := fzVs_ok hw a1
    refine ⟨f2, b1, fun j hj => b2 j (a2 j hj), fun j hj => ?_, fun β' l ⟨a, b, e, h1, h2⟩ => ⟨a, b, e, (a5 β' a h1).ext (Fz.ext b2 β'), b4 β' b h2⟩⟩
    rcases b3 j hj with h | h
    · exact a3 j h
    · exact .inr h
theorem fzR_ok (hw : Sat B β F st w) {t c : Rs} (h : fzR st t c) : ∃ fz, (∀ j ∈ fz, ∃ ck, (j, ck) ∈ st.h) ∧ ∀ β' u, DnR β F w c u → DnR β' (Fz β F fz) w t u := by
  unfold fzR at h
  split at h
  · obtain ⟨f1, _, _, a3, a4⟩ := fzV_ok hw h
    exact ⟨f1, fun j hj => (a3 j hj).resolve_left (by simp), a4⟩
  · obtain ⟨f1, _, _, a3, a4⟩ := fzVs_ok hw h
    exact ⟨f1, fun j hj => (a3 j hj).resolve_left (by simp), fun β' u ⟨vs, e, hd⟩ => ⟨vs, e, a4 β' vs hd⟩⟩
  · exact h.elim
end
/-- The bounds of data. -/
def rngT : (a : Sh) → a.T → Prop
  | .int k, x => inR k x
  | .bool, _ => True
  | .str, x => x.size ≤ maxLen
  | .unit, _ => True
  | .pair a b, x => rngT a x.1 ∧ rngT b x.2
  | .arr n k, x => x.length = n ∧ ∀ y ∈ x, inR k y
  | .sl a, x => x.length ≤ maxLen ∧ ∀ y ∈ x, rngT a y
def rng : CV → Prop
  | .val (.int k a) => inR k a
  | .val (.string s) => s.size ≤ maxLen
  | .run k n d => d.length = n ∧ ∀ y ∈ d, inR k y
  | .rd a x => rngT (.sl a) x
  | .rp a x _ => rngT a x
  | _ => True
def rngL : List CV → Prop
  | [] => True
  | c :: r => rng c ∧ rngL r
def rngV : Vl → Prop
  | .one c => rng c
  | .agg l => rngL l
def rngVs : List Vl → Prop
  | [] => True
  | c :: r => rngV c ∧ rngVs r
section
variable {β : Nat → Option Value} {F : Nat → Prop} {w : World}
theorem rngT_ok : ∀ {a : Sh} {x : a.T} {l : List Value}, RdC w F a x l → rngT a x
  | .int k, x, l, h => h.2
  | .bool, x, l, h => trivial
  | .str, x, l, h => h.2
  | .unit, x, l, h => trivial
  | .pair a b, x, l, h => by obtain ⟨l1, l2, _, h1, h2⟩ := h; exact ⟨rngT_ok h1, rngT_ok h2⟩
  | .arr n k, x, l, h => ⟨h.1, h.2.2⟩
  | .sl a, x, l, h => by
    obtain ⟨ad, cap, _, h1, h2, _, h4⟩ := h
    refine ⟨Nat.le_trans h1 h2, fun y hy => ?_⟩
    obtain ⟨i, hi, rfl⟩ := List.getElem_of_mem hy
    obtain ⟨g, o, _, _, hc⟩ := h4 (by omega)
    obtain ⟨cs, c1, _⟩ := hc i _ (List.getElem?_eq_getElem hi)
    exact rngT_ok c1
theorem rng_ok {c : CV} {u : Value} (h : Dn β F w c u) : rng c := by
  unfold rng
  split
  · exact h.2
  · exact h.2
  · exact h.elim
  · exact rngT_ok h
  · obtain ⟨g, o, cs, _, _, h3, _⟩ := h; exact rngT_ok h3
  · trivial
theorem rngC_ok {c : CV} {l : List Value} (h : DnC β F w c l) : rng c := by
  cases c <;> first | (obtain ⟨u, _, h, _⟩ := h; exact rng_ok h) | exact ⟨h.1, h.2.2⟩
theorem rngL_ok : ∀ {c : List CV} {l : List Value}, DnL β F w c l → rngL c
  | [], l, h => trivial
  | c :: r, l, h => by obtain ⟨a, b, _, h1, h2⟩ := h; exact ⟨rngC_ok h1, rngL_ok h2⟩
theorem rngV_ok {c : Vl} {u : Value} (h : DnV β F w c u) : rngV c := by
  cases c with
  | one c => exact rng_ok h
  | agg l => obtain ⟨vs, _, h⟩ := h; exact rngL_ok h
theorem rngVs_ok : ∀ {c : List Vl} {l : List Value}, DnVs β F w c l → rngVs c
  | [], l, h => trivial
  | c :: r, l, h => by obtain ⟨a, b, _, h1, h2⟩ := h; exact ⟨rngV_ok h1, rngVs_ok h2⟩
end
section
variable {T : Tb} {sp : FuncId → Option Spec} {P : Program}
theorem sat_start (w : World) (F : Nat → Prop) (hF : FOk F w) : Sat ⟨w, fun _ => False, F, 0, fun _ => none⟩ (fun _ => none) F ⟨0, []⟩ w :=
  ⟨Only.refl _ w, fun _ _ => rfl, fun p hp => (by cases hp), fun p hp => (by cases hp), List.Pairwise.nil, hF, fun _ h => h, fun _ h => .inl h, Nat.le_refl _, fun _ h => absurd h (Nat.not_lt_zero _)⟩
theorem valid_pre (hm : P.follows .mixedOrders = true) (hT : ∀ t i, T t = some i → TyOk P t i) (hsp : ∀ f S, sp f = some S → Valid P f S) {f : FuncId} {fn : Func} (hf : P.funcs[f]? = some fn) (hc : CallOk P f) {S : List Vl → (Rs → Prop) → Prop}
    (h : ∀ args K, S args K → rngVs args → noIdVs args = true ∧ ∃ lp, runF T sp lp 0 fn args ⟨0, []⟩ fun r' st' => ∃ r, K r ∧ fzR st' r r') : Valid P f (.pre S) := by
  refine ⟨hc, fun args K hS β F w vs hF hd => ?_⟩
  obtain ⟨hn, lp, hr⟩ := h args K hS (rngVs_ok hd)
  refine (runF_ok hm hT hsp hf hr (noIdVs_dn (β' := fun _ => none) (fun _ h => h) (fun _ _ => rfl) hn hd) (sat_start w F hF)).mono ?_
  rintro e w' ⟨u, r', st', β', F', rfl, ⟨r, h1, h2⟩, h3, h4⟩
  obtain ⟨fz, z1, z2⟩ := fzR_ok h3 h2
  refine ⟨u, r, Fz β' F' fz, rfl, h1, h3.only.below (Nat.le_refl _) (fun k hk => hk.elim), fun k hk => .inl (h3.f1 k hk), fun k hk => ?_, z2 β u h4⟩
  rcases hk with hk | ⟨j, hj, hb⟩
  · rcases h3.f2 k hk with h | h | h
    · exact .inl h
    · exact h.elim
    · exact .inr ⟨h, h3.frz k hk⟩
  · obtain ⟨ck, hck⟩ := z1 j hj
    obtain ⟨o1, _, o3⟩ := h3.own _ hck k hb
    rcases o1 with o1 | o1
    · exact o1.elim
    · exact .inr ⟨o1, o3⟩
theorem valid_preO (hm : P.follows .mixedOrders = true) (hT : ∀ t i, T t = some i → TyOk P t i) (hsp : ∀ f S, sp f = some S → Valid P f S) {f : FuncId} {fn : Func} (hf : P.funcs[f]? = some fn) (hc : CallOk P f) {S : List Vl → Option Rs}
    (h : ∀ args r, S args = some r → rngVs args → noIdVs args = true ∧ ∃ lp, runF T sp lp 0 fn args ⟨0, []⟩ fun r' st' => fzR st' r r') : Valid P f (.pre (preO S)) := by
  refine ⟨hc, fun args K hS β F w vs hF hd => ?_⟩
  unfold preO at hS
  split at hS
  case h_2 => exact hS.elim
  rename_i r hSr
  have h1 := hS
  obtain ⟨hn, lp, hr⟩ := h args r hSr (rngVs_ok hd)
  refine (runF_ok hm hT hsp hf hr (noIdVs_dn (β' := fun _ => none) (fun _ h => h) (fun _ _ => rfl) hn hd) (sat_start w F hF)).mono ?_
  rintro e w' ⟨u, r', st', β', F', rfl, h2, h3, h4⟩
  obtain ⟨fz, z1, z2⟩ := fzR_ok h3 h2
  refine ⟨u, r, Fz β' F' fz, rfl, h1, h3.only.below (Nat.le_refl _) (fun k hk => hk.elim), fun k hk => .inl (h3.f1 k hk), fun k hk => ?_, z2 β u h4⟩
  rcases hk with hk | ⟨j, hj, hb⟩
  · rcases h3.f2 k hk with h | h | h
    · exact .inl h
    · exact h.elim
    · exact .inr ⟨h, h3.frz k hk⟩
  · obtain ⟨ck, hck⟩ := z1 j hj
    obtain ⟨o1, _, o3⟩ := h3.own _ hck k hb
    rcases o1 with o1 | o1
    · exact o1.elim
    · exact .inr ⟨o1, o3⟩
theorem calls_some {f : FuncId} {args : Array Value} {w : World} {R : Ending → World → Prop} (h : Calls P f args w R) : ∃ e w', R e w' := by
  obtain ⟨e, w', fr, hr, _⟩ := h []
  exact ⟨e, w', hr⟩
theorem valid_tot (hm : P.follows .mixedOrders = true) (hT : ∀ t i, T t = some i → TyOk P t i) (hsp : ∀ f S, sp f = some S → Valid P f S) {f : FuncId} {fn : Func} (hf : P.funcs[f]? = some fn) (hc : CallOk P f) {S : List Vl → Option Rs}
    (h : ∀ args r, S args = some r → rngVs args → noIdVs args = true ∧ (cloR r).isSome = true ∧ ∃ lp, runF T sp lp 0 fn args ⟨0, []⟩ fun r' st' => fzR st' r r') : Valid P f (.tot S) := by
  refine ⟨hc, fun args r hS β F w vs hF hd => ?_⟩
  obtain ⟨hn, hcl, lp, hr⟩ := h args r hS (rngVs_ok hd)
  obtain ⟨v, hv⟩ := Option.isSome_iff_exists.1 hcl
  have run : ∀ w', (∀ k, F k → w'.heap[k]? = w.heap[k]?) → w.heap.size ≤ w'.heap.size → Calls P f vs.toArray w' fun e w'' => (∃ u, e = .returned u ∧ DnR β F w r u) ∧ Below w'.heap.size w' w'' := by
    intro w' hb hsz
    refine (runF_ok hm hT hsp hf hr (noIdVs_dn (β' := fun _ => none) (fun _ h => h) hb hn hd) (sat_start w' F ⟨fun k hk => Nat.lt_of_lt_of_le (hF k hk) hsz, hF.gl.ext (fun _ h => h) hb⟩)).mono ?_
    rintro e w'' ⟨u, r', st', β', F', rfl, h2, h3, h4⟩
    obtain ⟨fz, z1, z2⟩ := fzR_ok h3 h2
    exact ⟨⟨u, rfl, noMemR_dn hv (z2 β u h4)⟩, h3.only.below (Nat.le_refl _) (fun k hk => hk.elim)⟩
  obtain ⟨e, w1, ⟨u, _, hu⟩, _⟩ := calls_some (run w (fun _ _ => rfl) (Nat.le_refl _))
  refine ⟨u, hu, fun w' hb hsz => (run w' hb hsz).mono ?_⟩
  rintro e w'' ⟨⟨u', rfl, h1⟩, h2⟩
  rw [cloR_uniq hv h1, ← cloR_uniq hv hu]
  exact ⟨rfl, h2⟩
end
end Go.Proofs.YtnbbooilapelmaaGreatDoor.V
