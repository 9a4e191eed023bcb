/-
  A symbolic run of a function's text: the arguments of a row, read as data; rows of laws.
-/
import Derived.Test.YtnbbooilapelmaaGreatDoorKitVp
import Derived.Test.YtnbbooilapelmaaGreatDoorKitE
set_option linter.unusedVariables false
set_option linter.unusedSimpArgs false
namespace Go.Proofs.YtnbbooilapelmaaGreatDoor.V
open Go.RowKit Go.Proofs.YtnbbooilapelmaaGreatDoor
def lvI (P : Program) (k : IntKind) : Nat → List TypeId → Option (List TypeId)
  | 0, ts => some ts
  | n + 1, t :: r => (match P.underlying t with | some (.int k') => (match eqK k' k with | true => lvI P k n r | false => none) | _ => none)
  | _ + 1, [] => none
/-- A shape against the types of cells. -/
def shL (P : Program) : Sh → List TypeId → Option (List TypeId)
  | .int k, t :: r => (match P.underlying t with | some (.int k') => (match eqK k' k with | true => some r | false => none) | _ => none)
  | .bool, t :: r => (match P.underlying t with | some .bool => some r | _ => none)
  | .str, t :: r => (match P.underlying t with | some .string => some r | _ => none)
  | .unit, ts => some ts
  | .pair a b, ts => (match shL P a ts with | some r => shL P b r | none => none)
  | .arr n k, ts => lvI P k n ts
  | .sl a, t :: r => (match P.underlying t with
    | some (.slice e) => (match flat P 12 e with
      | some es => (match shL P a es with
        | some [] => (match Nat.beq (P.cellsOf e) a.size, Nat.blt 0 a.size with | true, true => some r | _, _ => none)
        | _ => none)
      | none => none)
    | _ => none)
  | _, [] => none
section
variable {H : Type} {enc : TypeId × Value → H} {P : Program} {base : Nat} {W : World}
theorem wf_inR {k : IntKind} {a : Int} (h : (Lit.int k a).wf = true) : inR k a := inR_wf.2 h
theorem lvI_ok {k : IntKind} : ∀ {n : Nat} {ts r : List TypeId}, lvI P k n ts = some r → ∀ {cs : List Value}, All2 (Rd enc P W 0 (fun _ => true) true) ts cs → ∃ (d : List Int) (c2 : List Value), d.length = n ∧ cs = d.map (Value.int k) ++ c2 ∧ (∀ y ∈ d, inR k y) ∧ All2 (Rd enc P W 0 (fun _ => true) true) r c2
  | 0, ts, r, h, cs, hc => by cases h; exact ⟨[], cs, rfl, rfl, by simp, hc⟩
  | n + 1, t :: ts, r, h, cs, hc => by
    simp only [lvI] at h
    split at h
    · rename_i k' hk
      split at h
      · rename_i he
        obtain rfl := eqK_eq he
        obtain ⟨c, cs', rfl, h1, h2⟩ := hc.cons
        obtain ⟨a, rfl, ha⟩ := h1.int hk
        obtain ⟨d, c2, d1, rfl, d2, d3⟩ := lvI_ok h h2
        exact ⟨a :: d, c2, by simp [d1], rfl, by simp [wf_inR ha]; exact d2, d3⟩
      · cases h
    · cases h
  | n + 1, [], r, h, cs, hc => by simp [lvI] at h
theorem spot_none {a : Addr} {u : Value} (h : W.cell? a = some u) : a.spot = none := by
  unfold World.cell? at h
  split at h
  · split at h
    · cases h
    · rename_i hh; cases ha : a.spot with | none => rfl | some _ => simp [ha] at hh
  · cases h
theorem add_lit {b o n : Nat} : (⟨b, o, none⟩ : Addr).add n = ⟨b, o + n, none⟩ := by
  unfold Addr.add
  split
  · rename_i h; simp_all
  · rfl
theorem shL_ok : ∀ {a : Sh} {ts r : List TypeId}, shL P a ts = some r → ∀ {cs : List Value}, All2 (Rd enc P W 0 (fun _ => true) true) ts cs → ∃ (y : a.T) (c1 c2 : List Value), cs = c1 ++ c2 ∧ RdC W (fun k => k < W.heap.size) a y c1 ∧ All2 (Rd enc P W 0 (fun _ => true) true) r c2
  | .int k, t :: ts, r, h, cs, hc => by
    simp only [shL] at h
    split at h
    · rename_i k' hk
      split at h
      · rename_i he
        obtain rfl := eqK_eq he
        cases h
        obtain ⟨c, cs', rfl, h1, h2⟩ := hc.cons
        obtain ⟨a, rfl, ha⟩ := h1.int hk
        exact ⟨a, [.int k' a], cs', rfl, ⟨rfl, wf_inR ha⟩, h2⟩
      · cases h
    · cases h
  | .bool, t :: ts, r, h, cs, hc => by
    simp only [shL] at h
    split at h
    · rename_i hk
      cases h
      obtain ⟨c, cs', rfl, h1, h2⟩ := hc.cons
      obtain ⟨a, rfl⟩ := h1.bool hk
      exact ⟨a, [.bool a], cs', rfl, rfl, h2⟩
    · cases h
  | .str, t :: ts, r, h, cs, hc => by
    simp only [shL] at h
    split at h
    · rename_i hk
      cases h
      obtain ⟨c, cs', rfl, h1, h2⟩ := hc.cons
      obtain ⟨a, rfl, ha⟩ := h1.string hk
      exact ⟨a, [.string a], cs', rfl, ⟨rfl, ha⟩, h2⟩
    · cases h
  | .unit, ts, r, h, cs, hc => by
    obtain rfl : ts = r := by simpa [shL] using h
    exact ⟨(), [], cs, rfl, rfl, hc⟩
  | .pair a b, ts, r, h, cs, hc => by
    simp only [shL] at h
    split at h
    · rename_i r' hr
      obtain ⟨y, c1, c2, rfl, h1, h2⟩ := shL_ok hr hc
      obtain ⟨z, c3, c4, rfl, h3, h4⟩ := shL_ok h h2
      exact ⟨(y, z), c1 ++ c3, c4, by simp, ⟨c1, c3, rfl, h1, h3⟩, h4⟩
    · cases h
  | .arr n k, ts, r, h, cs, hc => by
    obtain ⟨d, c2, d1, rfl, d2, d3⟩ := lvI_ok (by simpa only [shL] using h) hc
    exact ⟨d, _, c2, rfl, ⟨d1, rfl, d2⟩, d3⟩
  | .sl a, t :: ts, r, h, cs, hc => by
    simp only [shL] at h
    split at h
    · rename_i e hk
      split at h
      · rename_i es hes
        split at h
        · rename_i hsh
          split at h
          · rename_i hb1 hb2
            cases h
            have hsz := Nat.eq_of_beq_eq_true hb1
            have hpos : 0 < a.size := Nat.le_of_ble_eq_true hb2
            obtain ⟨c, cs', rfl, h1, h2⟩ := hc.cons
            rcases Rd.slice hk hes h1 with rfl | ⟨ad, len, cap, rfl, _, hl, hm, hel⟩
            · exact ⟨[], _, cs', rfl, ⟨none, 0, rfl, Nat.le_refl _, Nat.zero_le _, fun _ => rfl, fun h => absurd h (by simp)⟩, h2⟩
            · have hR : ∀ i, i < len → ∃ y : a.T, ∃ c1, RdC W (fun k => k < W.heap.size) a y c1 ∧ ∀ j u, c1[j]? = some u → W.cell? ((ad.add (i * a.size)).add j) = some u := fun i hi => by
                obtain ⟨cs1, e1, e2, e3⟩ := hel i (by omega)
                obtain ⟨y, c1, c2, rfl, h3, h4⟩ := shL_ok hsh e2
                have h4 := h4.nil
                subst h4
                rw [List.append_nil] at e1 e3
                refine ⟨y, c1, h3, fun j u hj => ?_⟩
                have hlt : j < P.cellsOf e := by rw [← e1]; exact (List.getElem?_eq_some_iff.1 hj).1
                rw [← hsz, e3 j hlt, hj]
              obtain ⟨l, hl1, hl2⟩ := choose_list len hR
              subst hl1
              refine ⟨l, _, cs', rfl, ⟨some ad, cap, rfl, hl, hm, fun h => (by cases h), fun h0 => ?_⟩, h2⟩
              obtain ⟨c1, h3, h4⟩ := hl2 0 _ (List.getElem?_eq_getElem h0)
              have hlen : c1.length = a.size := RdC.len _ _ h3
              have hcell := h4 0 _ (List.getElem?_eq_getElem (by omega))
              rw [Nat.zero_mul] at hcell
              have e0 : (ad.add 0).add 0 = ad := rfl
              rw [e0] at hcell
              have hspot := spot_none hcell
              obtain ⟨g, o, s⟩ := ad
              simp only at hspot
              subst hspot
              refine ⟨g, o, rfl, World.block_lt_of_cell? W _ hcell, fun i y hy => ?_⟩
              obtain ⟨c2, h5, h6⟩ := hl2 i y hy
              refine ⟨c2, h5, fun j u hj => ?_⟩
              have := h6 j u hj
              rwa [add_lit, add_lit] at this
          · cases h
        · cases h
      · cases h
    · cases h
  | .int _, [], r, h, cs, hc => by simp [shL] at h
  | .bool, [], r, h, cs, hc => by simp [shL] at h
  | .str, [], r, h, cs, hc => by simp [shL] at h
  | .sl _, [], r, h, cs, hc => by simp [shL] at h
def isAggD : TypeDesc → Bool | .struct _ | .array _ _ => true | _ => false
/-- Has a parameter of this type this shape? -/
def argB (P : Program) (p : PS) (t : TypeId) : Bool :=
  match P.underlying t, flat P 12 t with
  | some d, some ts => (match shL P p.2 ts with
    | some [] => (match p.1, isAggD d with
      | true, true => true
      | false, false => scal p.2
      | _, _ => false)
    | _ => false)
  | _, _ => false
theorem cells_one {v : Value} (h : ∀ l, v ≠ .agg l) : v.cells.toList = [v] := by
  cases v <;> first | rfl | exact absurd rfl (h _)
open Go.ChangeShapes Go.WideShapes Go.ChangeAt in
theorem arg_dn {p : PS} {t : TypeId} (hp : argB P p t = true) {v : Value} (h : Arg enc P W base t v) (β : Nat → Option Value) : ∃ x : p.2.T, DnV β (fun k => k < W.heap.size) W (enV p x) v := by
  obtain ⟨b, a⟩ := p
  unfold argB at hp
  split at hp
  case h_2 => cases hp
  rename_i d ts hu hf
  split at hp
  case h_2 => cases hp
  rename_i hsh
  split at hp
  · rename_i hb hd
    obtain ⟨cs, rfl, hc⟩ := Arg.agg hu (by cases d <;> first | rfl | simp [isAggD] at hd) hf h
    obtain ⟨y, c1, c2, rfl, h1, h2⟩ := shL_ok hsh hc
    have h2 := h2.nil
    subst h2
    simp only at hb
    subst hb
    exact ⟨y, c1, by simp, mkC_dn h1⟩
  · rename_i hb hd
    simp only at hb
    subst hb
    have hv : ∀ l, v ≠ .agg l := fun l e => by
      subst e
      obtain ⟨h1, _⟩ := h
      unfold Value.okWide at h1
      rw [hu] at h1
      cases d <;> simp [isAggD] at hd <;> (simp only at h1; unfold Cell.okWide at h1; rw [hu] at h1; simp at h1; try (unfold Cell.ok at h1; rw [hu] at h1; simp at h1))
    obtain ⟨_, d', pl, h2⟩ := h
    have hc := Trod_flat hf h2
    rw [cells_one hv] at hc
    obtain ⟨y, c1, c2, e, h1, h2⟩ := shL_ok hsh hc
    have h2 := h2.nil
    subst h2
    rw [List.append_nil] at e
    subst e
    exact ⟨y, enV_one hp (mkC_dn h1)⟩
  · cases hp
def Args (enc : TypeId × Value → H) (P : Program) (W : World) (base : Nat) : List TypeId → List Value → Prop
  | [], [] => True
  | t :: ts, v :: vs => Arg enc P W base t v ∧ Args enc P W base ts vs
  | _, _ => False
def argsB (P : Program) : List PS → List TypeId → Bool
  | [], [] => true
  | p :: r, t :: ts => argB P p t && argsB P r ts
  | _, _ => false
theorem args_dn : ∀ {ps : List PS} {ts : List TypeId} {vs : List Value}, argsB P ps ts = true → Args enc P W base ts vs → ∀ (β : Nat → Option Value), ∃ x : Tup ps, DnVs β (fun k => k < W.heap.size) W (enVs ps x) vs
  | [], [], [], _, _, β => ⟨(), rfl⟩
  | [p], [t], [v], hp, h, β => by
    simp only [argsB, Bool.and_true] at hp
    obtain ⟨x, hx⟩ := arg_dn hp h.1 β
    exact ⟨x, v, [], rfl, hx, rfl⟩
  | p :: q :: r, t :: t' :: ts, v :: v' :: vs, hp, h, β => by
    rw [argsB, Bool.and_eq_true] at hp
    obtain ⟨x, hx⟩ := arg_dn hp.1 h.1 β
    obtain ⟨y, hy⟩ := args_dn hp.2 h.2 β
    exact ⟨(x, y), v, _, rfl, hx, hy⟩
  | [p], t :: t' :: ts, _, hp, _, _ => by simp [argsB] at hp
  | _ :: _ :: _, [_], _, hp, _, _ => by simp [argsB] at hp
  | [], _ :: _, _, hp, _, _ => by simp [argsB] at hp
  | _ :: _, [], _, hp, _, _ => by simp [argsB] at hp
  | [], [], _ :: _, _, h, _ => h.elim
  | [_], [_], [], _, h, _ => h.elim
  | [_], [_], _ :: _ :: _, _, h, _ => h.2.elim
  | _ :: _ :: _, _ :: _ :: _, [], _, h, _ => h.elim
  | _ :: _ :: _, _ :: _ :: _, [_], _, h, _ => h.2.elim
/-- What the table of contracts says of a law's function is the law's walk. -/
theorem law_of {T : Tb} {sp : FuncId → Option Spec} {f : FuncId} {fn : Func} {ps : List PS} {ts : List TypeId} {vs : List Value} (hm : P.follows .mixedOrders = true) (hT : ∀ t i, T t = some i → TyOk P t i) (hsp : ∀ f S, sp f = some S → Valid P f S) (hf : P.funcs[f]? = some fn) (hps : psOk ps = true) (hb : argsB P ps ts = true) (ha : Args enc P W base ts vs)
    (h : ∀ x, rngTup ps x → ∃ lp, runF T sp lp 0 fn (enVs ps x) ⟨0, []⟩ fun r' st' => fzR st' (mkB true) r') (hg : GlOk (fun k => k < W.heap.size) W := by exact ⟨fun g n k l e => by (unfold Gr at e; cases e), fun p hp => by (unfold Gl at hp; cases hp)⟩) : Calls P f vs.toArray W fun e w' => e = .returned (.bool true) ∧ Below W.heap.size W w' := by
  obtain ⟨x, hx⟩ := args_dn hb ha (fun _ => none)
  obtain ⟨lp, hr⟩ := h x (rng_enVs hps (rngVs_ok hx))
  refine (runF_ok hm hT hsp hf hr (noIdVs_dn (β' := fun _ => none) (fun _ h => h) (fun _ _ => rfl) noId_enVs hx) (sat_start W _ ⟨fun k hk => hk, hg⟩)).mono ?_
  rintro e w' ⟨u, r', st', β', F', rfl, h2, h3, h4⟩
  obtain ⟨fz, z1, z2⟩ := fzR_ok h3 h2
  have := (z2 β' u h4).1
  exact ⟨by rw [this], h3.only.below (Nat.le_refl _) (fun k hk => hk.elim)⟩
end
end Go.Proofs.YtnbbooilapelmaaGreatDoor.V
