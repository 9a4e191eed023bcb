/-
  A symbolic run of a function's text: further operations.
-/
import Derived.Test.YtnbbooilapelmaaGreatDoorKitVb
import Derived.OpenShut
set_option linter.unusedVariables false
set_option linter.unusedSimpArgs false
namespace Go.Proofs.YtnbbooilapelmaaGreatDoor.V
open Go.RowKit Go.Proofs.YtnbbooilapelmaaGreatDoor
def pow2K : Nat → (Int → Prop) → Prop
  | 0, K => K 1
  | 1, K => K 2
  | 2, K => K 4
  | 3, K => K 8
  | 4, K => K 16
  | 5, K => K 32
  | 6, K => K 64
  | 7, K => K 128
  | 8, K => K 256
  | 9, K => K 512
  | 10, K => K 1024
  | 11, K => K 2048
  | 12, K => K 4096
  | 13, K => K 8192
  | 14, K => K 16384
  | 15, K => K 32768
  | 16, K => K 65536
  | 17, K => K 131072
  | 18, K => K 262144
  | 19, K => K 524288
  | 20, K => K 1048576
  | 21, K => K 2097152
  | 22, K => K 4194304
  | 23, K => K 8388608
  | 24, K => K 16777216
  | 25, K => K 33554432
  | 26, K => K 67108864
  | 27, K => K 134217728
  | 28, K => K 268435456
  | 29, K => K 536870912
  | 30, K => K 1073741824
  | 31, K => K 2147483648
  | 32, K => K 4294967296
  | 33, K => K 8589934592
  | 34, K => K 17179869184
  | 35, K => K 34359738368
  | 36, K => K 68719476736
  | 37, K => K 137438953472
  | 38, K => K 274877906944
  | 39, K => K 549755813888
  | 40, K => K 1099511627776
  | 41, K => K 2199023255552
  | 42, K => K 4398046511104
  | 43, K => K 8796093022208
  | 44, K => K 17592186044416
  | 45, K => K 35184372088832
  | 46, K => K 70368744177664
  | 47, K => K 140737488355328
  | 48, K => K 281474976710656
  | 49, K => K 562949953421312
  | 50, K => K 1125899906842624
  | 51, K => K 2251799813685248
  | 52, K => K 4503599627370496
  | 53, K => K 9007199254740992
  | 54, K => K 18014398509481984
  | 55, K => K 36028797018963968
  | 56, K => K 72057594037927936
  | 57, K => K 144115188075855872
  | 58, K => K 288230376151711744
  | 59, K => K 576460752303423488
  | 60, K => K 1152921504606846976
  | 61, K => K 2305843009213693952
  | 62, K => K 4611686018427387904
  | 63, K => K 9223372036854775808
  | 64, K => K 18446744073709551616
  | n, K => K (2 ^ n)
theorem pow2K_ok {n : Nat} {K : Int → Prop} (h : pow2K n K) : K (2 ^ n) := by
  unfold pow2K at h
  split at h <;> first | exact h | (simpa using h)
section
variable {P : Program} {B : Base} {β : Nat → Option Value} {F : Nat → Prop} {w : World} {st : St}
/-- A block of the state's own is written. -/
theorem Sat.store (h : Sat B β F st w) {id : Nat} {cells l : List CV} {ty : TypeId} {g : Nat} {vs ws : List Value} (hl : look st.h id = some (.blk cells ty)) (hb : β id = some (.pointer (some ⟨g, 0, none⟩)))
    (hg : w.heap[g]? = some (.cells vs.toArray ty (0, 0))) (hd : DnL β F w l ws) : Ext β F w β F (w.setRow g ws.toArray) ∧ Sat B β F ⟨st.nx, upd st.h id (.blk l ty)⟩ (w.setRow g ws.toArray) := by
  obtain ⟨o1, o2, o3⟩ := h.own _ (look_mem hl) g (by simp [hb, bk])
  have hx : Ext β F w β F (w.setRow g ws.toArray) := ⟨fun _ _ h => h, fun _ h => h, fun k hk => setRow_other w g k _ (fun e => o2 (e ▸ hk))⟩
  refine ⟨hx, ⟨?_, h.fresh, fun p hp => ?_, fun p hp k hk => ?_, ?_, ⟨fun k hk => ?_, h.frz.gl.ext hx.f hx.k⟩, h.f1, h.f2, h.anc⟩⟩
  · exact ⟨h.only.os, h.only.tape, h.only.output, by simpa using h.only.size, fun k hk hs => (setRow_other w g k _ (fun e => by subst e; rcases o1 with o1 | o1; exact hs o1; omega)).trans (h.only.block k hk hs)⟩
  · rcases upd_other (R := fun a b => ∀ k, bk (β a) = some k → bk (β b) ≠ some k) h.sep hl hp with rfl | ⟨hp, hr⟩
    · exact ⟨g, ws, hb, setRow_heap w g _ _ ty _ hg, hd.ext hx⟩
    · have hne : ∀ k, bk (β p.1) = some k → k ≠ g := fun k hk e => by
        subst e
        rcases hr with hr | hr
        · exact hr k (by simp [hb, bk]) hk
        · exact hr k hk (by simp [hb, bk])
      have hc := h.cks p hp
      cases hq : p.2 with
      | blk cells ty =>
        rw [hq] at hc
        obtain ⟨g', vs', h1, h2, h3⟩ := hc
        exact ⟨g', vs', h1, by rw [setRow_other w g g' _ (hne g' (by simp [h1, bk]))]; exact h2, h3.ext hx⟩
      | own ty a xs =>
        rw [hq] at hc
        obtain ⟨v, vs', h1, h2, h3⟩ := hc
        refine ⟨v, vs', h1, h2.kept (fun k hk => setRow_other w g k _ (hne k ?_)), h3.mono hx.f hx.k⟩
        rw [h1]
        cases v <;> simp [Value.ownBlock] at hk
        rename_i a' _ _
        cases a' <;> simp [bk] at hk ⊢
        exact hk
      | xk c => rw [hq] at hc; exact Xk.keep hx hc fun k hk => setRow_other w g k _ (hne k hk)
  · have : ∃ p' ∈ st.h, p'.1 = p.1 := by
      rcases upd_mem hp with e | hp
      · exact ⟨_, look_mem hl, by rw [e]⟩
      · exact ⟨p, hp, rfl⟩
    obtain ⟨p', hp', e⟩ := this
    rw [← e] at hk
    obtain ⟨h1, h2, h3⟩ := h.own p' hp' k hk
    exact ⟨h1, h2, by simpa using h3⟩
  · have := h.sep
    rw [pairwise_fst (R := fun a b => ∀ k, bk (β a) = some k → bk (β b) ≠ some k)] at this ⊢
    rw [upd_fst]
    exact this
  · simpa using h.frz k hk
theorem run_storeAt {t : TypeId} {n : Nat} (hi : (P.info? t).map (·.size) = some n) {u : Value} {vs : List Value} (hu : u.cells = vs.toArray) (hn : vs.length = n) (h1 : ∀ v ∈ vs, v.oneCell' = true) {g off : Nat} {cur : Array Value} {ty : TypeId}
    (hg : w.heap[g]? = some (.cells cur ty (0, 0))) (hf : off + vs.length ≤ cur.size) :
    (Instr.storeAt t (.pointer (some ⟨g, off, none⟩)) u).run P w = .ok () (w.setRow g (cur.toList.take off ++ vs ++ cur.toList.drop (off + vs.length)).toArray) := by
  have := run_storeCells_at (P := P) g off ty vs 0 cur w hg (by simpa using hf) h1
  simp only [Nat.add_zero] at this
  cases hq : P.info? t with
  | none => simp [hq] at hi
  | some i =>
    have hs : i.size = n := by simpa [hq] using hi
    simp [Instr.storeAt, Instr.sureAddr, storeVar, sizeOf, typeInfo, hq, hu, hs, hn, this]
end
/-- A store. -/
def opStore (T : Tb) (t : TypeId) (x y : Option Rs) (st : St) (K : Rs → St → Prop) : Prop :=
  match T t with
  | none => False
  | some i => match x with
    | some (.v (.one (.ptr id off))) => (match y with
      | some r => (match cellsOf r with
        | some vs => (match Nat.beq (cwid vs) i.n with
          | true => (match look st.h id with
            | some (.blk cells ty) => (match putSegs off vs cells with
              | some l => K (.v (.one .any)) ⟨st.nx, upd st.h id (.blk l ty)⟩
              | none => False)
            | _ => False)
          | false => False)
        | none => False)
      | none => False)
    | _ => False
section
variable {T : Tb} {P : Program} {B : Base} {β : Nat → Option Value} {F : Nat → Prop} {w : World} {st : St}
theorem opStore_ok (hT : ∀ t i, T t = some i → TyOk P t i) {t : TypeId} {x y : Option Rs} {K : Rs → St → Prop} (h : opStore T t x y st K) (hs : Sat B β F st w) {u v : Value} (hx : ∀ r, x = some r → DnR β F w r u) (hy : ∀ r, y = some r → DnR β F w r v) :
    ∃ w' st' r, (Instr.storeAt t u v).run P w = .ok () w' ∧ K r st' ∧ Ext β F w β F w' ∧ Sat B β F st' w' ∧ DnR β F w' r undef := by
  unfold opStore at h
  split at h
  · exact h.elim
  · rename_i i hi
    split at h
    · rename_i id off
      obtain ⟨g, h1, rfl⟩ := hx _ rfl
      split at h
      · rename_i r
        split at h
        · rename_i vs hc
          split at h
          · rename_i hn
            have hn := Nat.eq_of_beq_eq_true hn
            split at h
            · rename_i cells ty hl
              split at h
              · rename_i l hp
                obtain ⟨ws, c1, c2, _⟩ := cellsOf_dn hc (hy _ rfl)
                obtain ⟨g', old, h2, h3, h4⟩ := hs.cks _ (look_mem hl)
                obtain rfl : g = g' := by rw [h1] at h2; cases h2; rfl
                obtain ⟨p1, p2⟩ := putSegs_dn _ _ _ _ _ _ hp h4 c2
                obtain ⟨s1, s2⟩ := hs.store hl h1 h3 p1
                exact ⟨_, _, _, run_storeAt (hT t i hi).size c1 (by rw [c2.len, hn]) c2.one h3 (by simpa using p2), h, by simpa using s1, by simpa using s2, trivial⟩
              · exact h.elim
            · exact h.elim
          · exact h.elim
        · exact h.elim
      · exact h.elim
    · exact h.elim
end
def opFieldAddr (T : Tb) (t : TypeId) (x : Option Rs) (f : Nat) : Option Rs :=
  match T t with
  | none => none
  | some i => match i.flds[f]? with
    | none => none
    | some (o, _, _) => match x with
      | some (.v (.one (.ptr id off))) => some (.v (.one (.ptr id (off + o))))
      | some (.v (.one (.rp a y c))) => some (.v (.one (.rp a y (c + o))))
      | some (.v (.one (.ep id sz ix c))) => some (.v (.one (.ep id sz ix (c + o))))
      | _ => none
section
variable {T : Tb} {P : Program} {B : Base} {β : Nat → Option Value} {F : Nat → Prop} {w : World} {st : St}
theorem run_fieldAt (hT : ∀ t i, T t = some i → TyOk P t i) {t : TypeId} {i : Ty} (hi : T t = some i) {f o n e : Nat} (hf : i.flds[f]? = some (o, n, e)) (g off : Nat) :
    (Instr.fieldAt t (.pointer (some ⟨g, off, none⟩)) f).run P w = .ok (.pointer (some ⟨g, off + o, none⟩)) w := by
  obtain ⟨fs, h1, h2, h3⟩ := (hT t i hi).flds (fun e => by rw [e] at hf; cases hf)
  have hn := h3 (o, n, e) (List.mem_of_getElem? hf)
  rw [← h2, List.getElem?_map] at hf
  cases hq : fs[f]? with
  | none => simp [hq] at hf
  | some fd =>
    obtain ⟨e1, e2, e3⟩ : fd.offset = o ∧ P.cellsOf fd.type = n ∧ fd.type = e := by simpa [hq] using hf
    have hsz : ∃ k, (sizeOf fd.type).run P w = .ok k w ∧ k ≠ 0 := by
      simp only [Program.cellsOf] at e2
      cases hi2 : P.info? fd.type with
      | none => simp [hi2] at e2; simp [← e2] at hn
      | some ti => exact ⟨ti.size, by simp [sizeOf, typeInfo, hi2], by simp [hi2] at e2; rw [e2]; exact hn⟩
    obtain ⟨k, hk, hk0⟩ := hsz
    simp [Instr.fieldAt, run_underlying h1, hq, Instr.sureAddr, fieldPlace, hk, hk0, Addr.add_mid, e1]
theorem opFieldAddr_ok (hT : ∀ t i, T t = some i → TyOk P t i) {t : TypeId} {x : Option Rs} {f : Nat} {r : Rs} (h : opFieldAddr T t x f = some r) {u : Value} (hx : ∀ r, x = some r → DnR β F w r u) :
    ∃ v, (∀ w', (Instr.fieldAt t u f).run P w' = .ok v w') ∧ DnR β F w r v := by
  unfold opFieldAddr at h
  split at h
  · cases h
  · rename_i i hi
    split at h
    · cases h
    · rename_i o n e hf
      split at h
      · obtain ⟨g, h1, rfl⟩ := hx _ rfl
        cases h
        exact ⟨_, fun w' => run_fieldAt hT hi hf _ _, g, h1, rfl⟩
      · obtain ⟨g, o', cs, rfl, h2, h3, h4⟩ := hx _ rfl
        cases h
        exact ⟨_, fun w' => run_fieldAt hT hi hf _ _, g, o', cs, by rw [Nat.add_assoc], h2, h3, h4⟩
      · obtain ⟨g, o', n', cap, h1, rfl⟩ := hx _ rfl
        cases h
        exact ⟨_, fun w' => run_fieldAt hT hi hf _ _, g, o', n', cap, h1, by rw [Nat.add_assoc]⟩
      · cases h
end
end Go.Proofs.YtnbbooilapelmaaGreatDoor.V
