import Derived.Test.YtdbdoohjhecfiaaTys
import Derived.Test.YtdbdoohjhecfiaaKitVn
namespace Go.Proofs.Ytdbdoohjhecfiaa.V
open Go.RowKit Go.Proofs.Ytdbdoohjhecfiaa
/-! ### What the functions answer -/
def bitF (n : Int) : Int := if 0 ≤ n ∧ n ≤ 7 then 2 ^ n.toNat else 0
def andI (a b : Int) : Int := bits .and .u8 a b
def orI (a b : Int) : Int := bits .or .u8 a b
def anI (a b : Int) : Int := bits .andNot .u8 a b
def hasF (m c : Int) : Bool := andI m (bitF c) != 0
def coresF (m : Int) : List Int := ((List.range 8).map Int.ofNat).filter (hasF m)
def coreF (n : Int) : Bool := decide (0 ≤ n) && decide (n ≤ 7)
abbrev Z8 : List Int := List.replicate 8 0
structure M where
  kind : Int
  line : Int
  dirty : Bool
  kept : Bool
  data : List Int
structure E where
  here : Bool
  dirty : Bool
  data : List Int
  owner : Int
  share : Int
  busy : Int
  by_ : Int
  wait : Int
def asksF (k : Int) : Bool := decide (1 ≤ k) && decide (k ≤ 5)
def ansF (k : Int) : Bool := k == 6 || k == 7
def turnF (k : Int) : Bool := k == 3 || (k == 6 || k == 7)
def wordsF (k : Int) : Bool := k == 8 || (k == 9 || k == 10)
def mgoodF (m : M) : Bool := (decide (1 ≤ m.kind) && decide (m.kind ≤ 14)) && ((decide (0 ≤ m.line) && decide (m.line ≤ 63)) && ((!m.dirty || turnF m.kind) && ((!m.kept || m.kind == 7) && (wordsF m.kind || (m.dirty || m.data == Z8)))))
def goodF (e : E) : Bool :=
  (decide (-1 ≤ e.owner) && decide (e.owner ≤ 7)) && ((!decide (0 ≤ e.owner) || e.share == 0) && ((e.here || (!e.dirty && (!decide (0 ≤ e.owner) && (e.share == 0 && (e.data == Z8 && e.busy == 0))))) && (anI e.wait (orI e.share (bitF e.owner)) == 0 &&
    (if e.busy = 0 then e.by_ == 0 && e.wait == 0 else if e.busy = 1 ∨ e.busy = 2 then coreF e.by_ && e.wait != 0 else if e.busy = 4 ∨ e.busy = 5 then coreF e.by_ else false))))
def readyF (e : E) : Bool := goodF e && ((e.busy == 4 || e.busy == 5) && e.wait == 0)
/-! ### Their forms -/
abbrev vi (z : Int) : CV := .val (.int .i64 z)
abbrev v8 (z : Int) : CV := .val (.int .u8 z)
abbrev vb (b : Bool) : CV := .val (.bool b)
abbrev encE (e : E) : List CV := [vb e.here, vb e.dirty, .run .u64 8 e.data, vi e.owner, v8 e.share, vi e.busy, vi e.by_, v8 e.wait]
abbrev encM (m : M) : List CV := [vi m.kind, vi m.line, vb m.dirty, vb m.kept, .run .u64 8 m.data]
def onI (f : Int → Rs) : List Vl → Option Rs
  | [.one (.val (.int .i64 n))] => some (f n)
  | _ => none
def onU (f : Int → Rs) : List Vl → Option Rs
  | [.one (.val (.int .u8 n))] => some (f n)
  | _ => none
def onUI (f : Int → Int → Rs) : List Vl → Option Rs
  | [.one (.val (.int .u8 m)), .one (.val (.int .i64 n))] => some (f m n)
  | _ => none
def onE (f : E → Rs) : List Vl → Option Rs
  | [.agg [.val (.bool a), .val (.bool b), .run .u64 8 d, .val (.int .i64 o), .val (.int .u8 s), .val (.int .i64 k), .val (.int .i64 y), .val (.int .u8 w)]] => some (f ⟨a, b, d, o, s, k, y, w⟩)
  | _ => none
def onM (f : M → Rs) : List Vl → Option Rs
  | [.agg [.val (.int .i64 k), .val (.int .i64 l), .val (.bool a), .val (.bool b), .run .u64 8 d]] => some (f ⟨k, l, a, b, d⟩)
  | _ => none
abbrev N (S : List Vl → Option Rs) : Spec := .tot fun a => S (nrm a)
section
variable {sp : FuncId → Option Spec} {f : FuncId} {fn : Func}
theorem tot_of (hsp : ∀ f S, sp f = some S → Valid Try.prog f S) (hf : Try.prog.funcs[f]? = some fn) (hc : CallOk Try.prog f) {S : List Vl → Option Rs}
    (h : ∀ args r, S args = some r → rngVs args → noIdVs args = true ∧ (cloR (nrmR r)).isSome = true ∧ ∃ lp, runF Tbl sp lp 0 fn args ⟨0, []⟩ fun r' st' => fzR st' (nrmR r) r') : Valid Try.prog f (N S) := by
  refine Valid.nrm (Valid.un (valid_tot mixed Tbl_ok hsp hf hc fun args r hr hg => ?_))
  cases hq : S args with
  | none => simp [hq] at hr
  | some r' => obtain rfl : nrmR r' = r := by simpa [hq] using hr
               exact h args r' hq hg
abbrev Q (S : List Vl → Option Rs) : Spec := .pre (preO fun a => S (nrm a))
theorem pre_of (hsp : ∀ f S, sp f = some S → Valid Try.prog f S) (hf : Try.prog.funcs[f]? = some fn) (hc : CallOk Try.prog f) {S : List Vl → Option Rs}
    (h : ∀ args r, S args = some r → rngVs args → noIdVs args = true ∧ ∃ lp, runF Tbl sp lp 0 fn args ⟨0, []⟩ fun r' st' => fzR st' (nrmR r) r') : Valid Try.prog f (Q S) := by
  refine Valid.preU (valid_preO mixed Tbl_ok hsp hf hc fun args r hr hg => ?_)
  cases hq : S args with
  | none => simp [hq] at hr
  | some r' => obtain rfl : nrmR r' = r := by simpa [hq] using hr
               exact h args r' hq hg
theorem totI (hsp : ∀ f S, sp f = some S → Valid Try.prog f S) (hf : Try.prog.funcs[f]? = some fn) (hc : CallOk Try.prog f) {g : Int → Rs}
    (h : ∀ n, inR .i64 n → (cloR (nrmR (g n))).isSome = true ∧ ∃ lp, runF Tbl sp lp 0 fn [.one (vi n)] ⟨0, []⟩ fun r' st' => fzR st' (nrmR (g n)) r') : Valid Try.prog f (N (onI g)) := by
  refine tot_of hsp hf hc fun args r hr hg => ?_
  unfold onI at hr
  split at hr
  · cases hr; rename_i n; exact ⟨rfl, h n hg.1⟩
  · cases hr
theorem totU (hsp : ∀ f S, sp f = some S → Valid Try.prog f S) (hf : Try.prog.funcs[f]? = some fn) (hc : CallOk Try.prog f) {g : Int → Rs}
    (h : ∀ n, inR .u8 n → (cloR (nrmR (g n))).isSome = true ∧ ∃ lp, runF Tbl sp lp 0 fn [.one (v8 n)] ⟨0, []⟩ fun r' st' => fzR st' (nrmR (g n)) r') : Valid Try.prog f (N (onU g)) := by
  refine tot_of hsp hf hc fun args r hr hg => ?_
  unfold onU at hr
  split at hr
  · cases hr; rename_i n; exact ⟨rfl, h n hg.1⟩
  · cases hr
theorem totUI (hsp : ∀ f S, sp f = some S → Valid Try.prog f S) (hf : Try.prog.funcs[f]? = some fn) (hc : CallOk Try.prog f) {g : Int → Int → Rs}
    (h : ∀ m n, inR .u8 m → inR .i64 n → (cloR (nrmR (g m n))).isSome = true ∧ ∃ lp, runF Tbl sp lp 0 fn [.one (v8 m), .one (vi n)] ⟨0, []⟩ fun r' st' => fzR st' (nrmR (g m n)) r') : Valid Try.prog f (N (onUI g)) := by
  refine tot_of hsp hf hc fun args r hr hg => ?_
  unfold onUI at hr
  split at hr
  · cases hr; rename_i m n; exact ⟨rfl, h m n hg.1 hg.2.1⟩
  · cases hr
theorem totE (hsp : ∀ f S, sp f = some S → Valid Try.prog f S) (hf : Try.prog.funcs[f]? = some fn) (hc : CallOk Try.prog f) {g : E → Rs}
    (h : ∀ a b d o s k y w, rngL (encE ⟨a, b, d, o, s, k, y, w⟩) → (cloR (nrmR (g ⟨a, b, d, o, s, k, y, w⟩))).isSome = true ∧ ∃ lp, runF Tbl sp lp 0 fn [.agg (encE ⟨a, b, d, o, s, k, y, w⟩)] ⟨0, []⟩ fun r' st' => fzR st' (nrmR (g ⟨a, b, d, o, s, k, y, w⟩)) r') : Valid Try.prog f (N (onE g)) := by
  refine tot_of hsp hf hc fun args r hr hg => ?_
  unfold onE at hr
  split at hr
  · cases hr; rename_i a b d o s k y w; exact ⟨rfl, h a b d o s k y w hg.1⟩
  · cases hr
theorem totM (hsp : ∀ f S, sp f = some S → Valid Try.prog f S) (hf : Try.prog.funcs[f]? = some fn) (hc : CallOk Try.prog f) {g : M → Rs}
    (h : ∀ k l a b d, rngL (encM ⟨k, l, a, b, d⟩) → (cloR (nrmR (g ⟨k, l, a, b, d⟩))).isSome = true ∧ ∃ lp, runF Tbl sp lp 0 fn [.agg (encM ⟨k, l, a, b, d⟩)] ⟨0, []⟩ fun r' st' => fzR st' (nrmR (g ⟨k, l, a, b, d⟩)) r') : Valid Try.prog f (N (onM g)) := by
  refine tot_of hsp hf hc fun args r hr hg => ?_
  unfold onM at hr
  split at hr
  · cases hr; rename_i k l a b d; exact ⟨rfl, h k l a b d hg.1⟩
  · cases hr
end
end Go.Proofs.Ytdbdoohjhecfiaa.V
