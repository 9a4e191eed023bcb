import Derived.KernelRfl
import Derived.Test.YtnbbooilapelmaaGreatDoorM2
namespace Go.Proofs.YtnbbooilapelmaaGreatDoor.V
open Go.RowKit Go.Proofs.YtnbbooilapelmaaGreatDoor
set_option linter.unusedSimpArgs false
set_option pp.deepTerms true
set_option pp.maxSteps 200000
theorem reg_dec {a : Int} (h : 0 ≤ a ∧ a ≤ 7) : regW (rB ++ decB a) = some a := by
  obtain ⟨d, rfl⟩ := Int.eq_ofNat_of_zero_le h.1
  have hd : d < 10 := by omega
  have h8 : d < 8 := by omega
  rw [dec1 hd]
  have key : ∀ d < 8, regW (rB ++ mkW [UInt8.ofNat (48 + d)]) = some (d : Int) := by decide
  exact key d h8
theorem num_dec {m : Int} (h : -2147483648 ≤ m ∧ m ≤ 2147483647) : numP (decB m) = some m := by
  rw [numP, numB_dec (by omega) (by omega)]; rfl
theorem reg_no {n : Int} (h : regF n false = true) : n = 0 := by simpa [regF] using h
/-- What a line's fields are read as. -/
theorem goI_dec {i : IN} (h : goodF i = true) : goI numP i.1 (hasS i.1).data.toList ((hasS i.1).data.toList.map (fldW i)) ((i.1, 0, 0, 0, 0), e0) = some (i, e0) := by
  obtain ⟨op, a, b, c, m⟩ := i
  obtain ⟨h0, ha, hb, hc, hm⟩ := good_bds h
  have eA := reg_dec ha
  have eB := reg_dec hb
  have eC := reg_dec hc
  have eM := num_dec hm
  have hs := has_is op
  dsimp only
  rw [goodF] at h
  simp only [Bool.and_eq_true] at h
  obtain ⟨⟨⟨⟨_, g1⟩, g2⟩, g3⟩, g4⟩ := h
  rw [hasB] at g1 g2 g3 g4
  generalize hasS op = s at hs g1 g2 g3 g4
  have fA : fldW (op, a, b, c, m) 65 = rB ++ decB a := rfl
  have fB : fldW (op, a, b, c, m) 66 = rB ++ decB b := rfl
  have fC : fldW (op, a, b, c, m) 67 = rB ++ decB c := rfl
  have fI : fldW (op, a, b, c, m) 73 = decB m := rfl
  simp only [hasC, List.mem_cons, List.not_mem_nil, or_false] at hs
  rcases hs with rfl | rfl | rfl | rfl | rfl | rfl | rfl
  · obtain rfl := reg_no g1; obtain rfl := reg_no g2; obtain rfl := reg_no g3
    obtain rfl : m = 0 := by have g4 : (m == 0) = true := g4; simpa using g4
    rfl
  · obtain rfl := reg_no g2; obtain rfl := reg_no g3
    show goI numP op [65, 73] [fldW _ 65, fldW _ 73] _ = _
    rw [fA, fI, goI, fld65, eA, Option.map_some, Option.bind_some, goI, fld73, eM]; rfl
  · obtain rfl : m = 0 := by have g4 : (m == 0) = true := g4; simpa using g4
    show goI numP op [65, 66, 67] [fldW _ 65, fldW _ 66, fldW _ 67] _ = _
    rw [fA, fB, fC, goI, fld65, eA, Option.map_some, Option.bind_some, goI, fld66, eB, Option.map_some, Option.bind_some, goI, fld67, eC]; rfl
  · obtain rfl := reg_no g3
    show goI numP op [65, 66, 73] [fldW _ 65, fldW _ 66, fldW _ 73] _ = _
    rw [fA, fB, fI, goI, fld65, eA, Option.map_some, Option.bind_some, goI, fld66, eB, Option.map_some, Option.bind_some, goI, fld73, eM]; rfl
  · obtain rfl := reg_no g1; obtain rfl := reg_no g3
    show goI numP op [66, 73] [fldW _ 66, fldW _ 73] _ = _
    rw [fB, fI, goI, fld66, eB, Option.map_some, Option.bind_some, goI, fld73, eM]; rfl
  · obtain rfl := reg_no g1; obtain rfl := reg_no g2; obtain rfl := reg_no g3
    show goI numP op [73] [fldW _ 73] _ = _
    rw [fI, goI, fld73, eM]; rfl
  · obtain rfl := reg_no g2; obtain rfl := reg_no g3
    obtain rfl : m = 0 := by have g4 : (m == 0) = true := g4; simpa using g4
    show goI numP op [65] [fldW _ 65] _ = _
    rw [fA, goI, fld65, eA]; rfl
theorem nm_get {op : Int} (h : 0 ≤ op ∧ op ≤ 22) : nmL[op.toNat]? = some (nmF op) := by
  rw [nmF_in h, List.getD_eq_getElem?_getD]
  obtain ⟨d, rfl⟩ := Int.eq_ofNat_of_zero_le h.1
  have hl : nmL.length = 23 := rfl
  rw [Int.toNat_natCast, List.getElem?_eq_getElem (show d < nmL.length by omega)]; rfl
def lnB (i : IN) : ByteArray := joinB (lineWs i) sp
def okW (w : ByteArray) : Prop := 32 ∉ w.data.toList ∧ 58 ∉ w.data.toList
theorem dec_ok (n : Int) : okW (decB n) := by
  refine ⟨dec_noSp n, fun h => ?_⟩
  rw [decB_list, Lib.itoa] at h
  split at h
  · rcases List.mem_cons.1 h with h | h
    · exact absurd h (by decide)
    · have := digs_all _ _ h; exact absurd this (by decide)
  · have := digs_all _ _ h; exact absurd this (by decide)
theorem nm_ok : ∀ w ∈ nmL, 32 ∉ (ByteArray.data w).toList ∧ 58 ∉ (ByteArray.data w).toList ∧ ByteArray.size w ≠ 0 := by decide
theorem rd_ok (n : Int) : okW (rB ++ decB n) := by
  have h := dec_ok n
  refine ⟨fun q => ?_, fun q => ?_⟩
  all_goals
    rw [app_list] at q
    rcases List.mem_append.1 q with q | q
  · exact absurd q (by decide)
  · exact h.1 q
  · exact absurd q (by decide)
  · exact h.2 q
theorem fld_ok (i : IN) (c : UInt8) : okW (fldW i c) := by
  rw [fldW]
  split
  · exact rd_ok _
  · split
    · exact rd_ok _
    · split
      · exact rd_ok _
      · exact dec_ok _
theorem ws_ok {i : IN} (h : 0 ≤ i.1 ∧ i.1 ≤ 22) : ∀ w ∈ lineWs i, okW w := by
  intro w hw
  rcases List.mem_cons.1 hw with rfl | hw
  · have := nm_ok _ (List.mem_of_getElem? (nm_get h)); exact ⟨this.1, this.2.1⟩
  · obtain ⟨c, _, rfl⟩ := List.mem_map.1 hw; exact fld_ok i c
theorem wd_ln {i : IN} (h : 0 ≤ i.1 ∧ i.1 ≤ 22) : wd (lnB i) = lineWs i := wd_join _ (by rw [lineWs]; simp) fun w hw => (ws_ok h w hw).1
theorem join_mem {c : UInt8} : ∀ {l : List ByteArray}, (∀ w ∈ l, c ∉ (ByteArray.data w).toList) → c ∉ sp.data.toList → c ∉ (joinB l sp).data.toList
  | [], _, _ => by rw [joinB_list]; simp [Lib.join]
  | [a], h, _ => by rw [join1]; exact h a (by simp)
  | a :: b :: r, h, hs => by
    have ih := join_mem (l := b :: r) (fun w hw => h w (by simp [hw])) hs
    rw [join_more, app_list, app_list]
    simp only [List.mem_append, not_or]
    exact ⟨h a (by simp), hs, ih⟩
theorem suf_mem {s : ByteArray} (h : sufB s colB = true) : 58 ∈ s.data.toList := by
  rw [sufB, Bool.and_eq_true, decide_eq_true_eq, decide_eq_true_eq, extract_eq] at h
  have h2 := congrArg (fun s => (ByteArray.data s).toList) h.2
  rw [mkW_list] at h2
  have : (58 : UInt8) ∈ colB.data.toList := by decide
  rw [← h2] at this
  exact List.mem_of_mem_drop (List.mem_of_mem_take this)
theorem ln_col {i : IN} (h : 0 ≤ i.1 ∧ i.1 ≤ 22) : sufB (lnB i) colB = false := by
  cases hb : sufB (lnB i) colB with
  | false => rfl
  | true => exact absurd (suf_mem hb) (join_mem (fun w hw => (ws_ok h w hw).2) (by decide))
theorem ln_ne {i : IN} (h : 0 ≤ i.1 ∧ i.1 ≤ 22) : lnB i ≠ e0 := by
  intro e
  have hw := wd_ln h
  rw [e, lineWs] at hw
  have h1 : wd e0 = [e0] := by decide
  rw [h1] at hw
  have := nm_ok _ (List.mem_of_getElem? (nm_get h))
  rw [← (List.cons.inj hw).1] at this
  exact absurd rfl this.2.2
theorem ins_ln {i : IN} (h : goodF i = true) : insW numP (wd (lnB i)) = some (i, e0) := by
  obtain ⟨op, a, b, c, m⟩ := i
  have hb := (good_bds h).1
  have hx : idxI (nmF op) nmL = op := by rw [idx_hit2 (nm_get hb)]; omega
  rw [wd_ln hb, lineWs, insW_go (by dsimp only; rw [hx, List.length_map, size_list]; exact ⟨hb.1, rfl⟩)]
  dsimp only
  rw [hx]
  have := goI_dec h
  dsimp only at this
  rw [this]
  exact guard_t h
theorem step_ln {i : IN} (h : goodF i = true) (line : Int) (x : AS) : stepE line (lnB i) x = 0 ∧ stepX line (lnB i) x = (x.1 ++ [i], x.2.1, x.2.2) := by
  obtain ⟨op, a, b, c, m⟩ := i
  have hb := (good_bds h).1
  have := step_ins (line := line) (x := x) (ln_ne (i := (op, a, b, c, m)) hb) (ln_col (i := (op, a, b, c, m)) hb) (ins_ln h)
  rwa [show lbl x.1.length line e0 = [] from if_pos rfl, List.append_nil] at this
theorem run_lns : ∀ (G : List IN) (i : Int) (r : List ByteArray) (l : List IN) (ms : List MN), (∀ x ∈ G, goodF x = true) → runA i (G.map lnB ++ r) (l, ms, []) = runA (i + G.length) r (l ++ G, ms, [])
  | [], i, r, l, ms, _ => by simp
  | x :: G, i, r, l, ms, h => by
    rw [List.map_cons, List.cons_append, runA_go (step_ln (h x (by simp)) i _), run_lns G (i + 1) r (l ++ [x]) ms (fun y hy => h y (by simp [hy]))]
    rw [List.append_assoc, List.length_cons]
    congr 1
    omega
def nobB : ByteArray := ⟨#[110, 111, 98, 111, 100, 121, 58]⟩
def moreB (A : List IN) (b : Bool) (B : List IN) : List ByteArray := A.map lnB ++ ((if b = true then [e0, nobB] else []) ++ B.map lnB)
theorem asm_end {L : List ByteArray} {G : List IN} {ms : List MN} (h : runA 0 L aZ = ((G, ms, []), none)) (hl : G.length ≤ 4096) : asmF L = (G, 0, 0) := by
  rw [asmF_end h]
  show (if G.length > 4096 then _ else (patch ms [] G, (0 : Int), (0 : Int))) = _
  rw [if_neg (by omega)]; rfl
theorem asm_more {A B : List IN} {b : Bool} (h : ∀ x ∈ A ++ B, goodF x = true) (hl : (A ++ B).length ≤ 4096) : asmF (moreB A b B) = (A ++ B, 0, 0) := by
  have hA : ∀ x ∈ A, goodF x = true := fun x hx => h x (by simp [hx])
  have hB : ∀ x ∈ B, goodF x = true := fun x hx => h x (by simp [hx])
  cases b with
  | false =>
    refine asm_end (ms := []) ?_ hl
    rw [moreB, run_lns A 0 _ _ _ hA, if_neg (by decide), List.nil_append, ← List.append_nil (B.map lnB), run_lns B _ [] _ _ hB, runA]; rfl
  | true =>
    refine asm_end (ms := [(nobB.extract 0 (nobB.size - 1), (A.length : Int))]) ?_ hl
    rw [moreB, run_lns A 0 _ _ _ hA, if_pos rfl, List.cons_append, List.cons_append, List.nil_append, runA_go step_nil, runA_go (step_lab (by decide) (by decide) (by decide) rfl), ← List.append_nil (B.map lnB), run_lns B _ [] _ _ hB, runA]; rfl
theorem asm_lns {G : List IN} (h : ∀ x ∈ G, goodF x = true) (hl : G.length ≤ 4096) : asmF (G.map lnB) = (G, 0, 0) := by
  have := asm_more (A := G) (B := []) (b := false) (by simpa using h) (by simpa using hl)
  simpa [moreB] using this
theorem ln_size {i : IN} (h : goodF i = true) : (lnB i).size ≤ 1000000 := by
  obtain ⟨op, a, b, c, m⟩ := i
  obtain ⟨_, ha, hb, hc, hm⟩ := good_bds h
  have h1 := insWs_size (i := (op, a, b, c, m)) ⟨by dsimp only; omega, by dsimp only; omega⟩ ⟨by dsimp only; omega, by dsimp only; omega⟩ ⟨by dsimp only; omega, by dsimp only; omega⟩ ⟨by dsimp only; omega, by dsimp only; omega⟩ (hasS op).size
  have h2 := insWs_len (op, a, b, c, m) (hasS op).size
  rw [insWs_end (Nat.le_refl _)] at h1 h2
  have := jsize _ h1
  have : (22 + 1) * (lineWs (op, a, b, c, m)).length ≤ 92 := by omega
  rw [lnB]; omega
end Go.Proofs.YtnbbooilapelmaaGreatDoor.V

namespace Go.Proofs.YtnbbooilapelmaaGreatDoor.V
open Go.RowKit Go.Proofs.YtnbbooilapelmaaGreatDoor
set_option linter.unusedSimpArgs false
set_option pp.deepTerms true
set_option pp.maxSteps 200000
structure B5 (l : List IN) (g : Int) (x : Nat × List IN × Bool × List IN) : Prop where
  k : x.1 ≤ l.length
  o : ∀ y ∈ x.2.1 ++ x.2.2.2, goodF y = true
  n : (x.2.1 ++ x.2.2.2).length ≤ x.1
  t : x.2.2.1 = true → g.tmod 9 < (x.1 : Int)
  f : x.2.2.1 = false → x.2.2.2 = []
abbrev lp5 (l : List IN) (g : Int) : Nat → Option LoopSp := fun _ => some { X := Nat × List IN × Bool × List IN, sl := fun x => [(0, .one (.rd shI l)), (1, .one (.val (.int .u8 g))), (5, .one (.sl 0)), (6, .one (.sl 1)), (7, .one (.sl 2)), (8, .one (vi x.1))], h := fun x => [(0, .own 9 .str ((x.2.1 ++ x.2.2.2).map lnB)), (1, .own 9 .str (moreB x.2.1 x.2.2.1 x.2.2.2)), (2, .own 40 shI (x.2.1 ++ x.2.2.2))], nx := 3, inv := fun x => B5 l g x, mu := fun x => l.length - x.1 }
theorem more_len (A B : List IN) (b : Bool) : (moreB A b B).length ≤ (A ++ B).length + 2 := by
  rw [moreB, List.length_append, List.length_append, List.length_append, List.length_map, List.length_map]
  have : (if b = true then [e0, nobB] else []).length ≤ 2 := by cases b <;> decide
  omega
theorem more_mem {A B : List IN} {b : Bool} (h : ∀ x ∈ A ++ B, goodF x = true) : ∀ s ∈ moreB A b B, ByteArray.size s ≤ 1000000 := by
  intro s hs
  have key : ∀ s ∈ [e0, nobB], ByteArray.size s ≤ 1000000 := by decide
  rw [moreB, List.mem_append, List.mem_append] at hs
  rcases hs with hs | hs | hs
  · obtain ⟨x, hx, rfl⟩ := List.mem_map.1 hs; exact ln_size (h x (by simp [hx]))
  · split at hs
    · exact key s hs
    · cases hs
  · obtain ⟨x, hx, rfl⟩ := List.mem_map.1 hs; exact ln_size (h x (by simp [hx]))
theorem more_snoc (A B : List IN) (y : IN) : moreB A true (B ++ [y]) = moreB A true B ++ [lnB y] := by
  simp [moreB]
theorem more_snoc0 (A : List IN) (y : IN) : moreB (A ++ [y]) false [] = moreB A false [] ++ [lnB y] := by
  simp [moreB]
theorem more_turn (A : List IN) (y : IN) : moreB A true [y] = moreB A false [] ++ [e0, nobB] ++ [lnB y] := by
  simp [moreB]
theorem map_snoc (A : List IN) (y : IN) : (A ++ [y]).map lnB = A.map lnB ++ [lnB y] := by simp
theorem back_law : ∀ x, rngTup [pNs, pU8] x → ∃ lp, runF Tbl (spL N20) lp 0 Tryz.f5 (enVs [pNs, pU8] x) ⟨0, []⟩ fun r' st' => fzR st' (mkB true) r' := by
  intro ⟨(l : List IN), (g : Int)⟩ hr
  refine ⟨lp5 l g, ?_⟩
  refine Eq.mp (by kernel_rfl : ((decide ((↑l.length : Int) > (200 : Int)) = true → true = true ∧ True) ∧ (decide ((↑l.length : Int) > (200 : Int)) = false → (∃ (x : Nat × List IN × Bool × List IN), B5 l g x ∧ l ≍ l ∧ g = g ∧ (0 : Int) = (↑x.fst : Int) ∧ List.map lnB (x.snd.fst ++ x.snd.snd.snd) = ([] : List ByteArray) ∧ moreB x.snd.fst x.snd.snd.fst x.snd.snd.snd = ([] : List ByteArray) ∧ x.snd.fst ++ x.snd.snd.snd = ([] : List (Int × Int × Int × Int × Int)) ∧ True) ∧ ∀ (x : Nat × List IN × Bool × List IN), B5 l g x → (decide ((↑x.fst : Int) < (↑l.length : Int)) = true → ((0 : Int) ≤ (↑x.fst : Int) ∧ (↑x.fst : Int) < (↑l.length : Int)) ∧ ∀ (y : Int × Int × Int × Int × Int), l[(↑x.fst : Int).toNat]? = some y → (((lineF (y.fst, y.snd.fst, y.snd.snd.fst, y.snd.snd.snd.fst, y.snd.snd.snd.snd)).snd != (0 : Int)) = true → ((-9223372036854775808 : Int) ≤ (↑x.fst : Int) + (1 : Int) ∧ (↑x.fst : Int) + (1 : Int) ≤ (9223372036854775807 : Int)) ∧ ∃ (y : Nat × List IN × Bool × List IN), B5 l g y ∧ l.length - y.fst < l.length - x.fst ∧ l ≍ l ∧ g = g ∧ (↑x.fst : Int) + (1 : Int) = (↑y.fst : Int) ∧ List.map lnB (x.snd.fst ++ x.snd.snd.snd) ≍ List.map lnB (y.snd.fst ++ y.snd.snd.snd) ∧ moreB x.snd.fst x.snd.snd.fst x.snd.snd.snd ≍ moreB y.snd.fst y.snd.snd.fst y.snd.snd.snd ∧ x.snd.fst ++ x.snd.snd.snd ≍ y.snd.fst ++ y.snd.snd.snd ∧ True) ∧ (((lineF (y.fst, y.snd.fst, y.snd.snd.fst, y.snd.snd.snd.fst, y.snd.snd.snd.snd)).snd != (0 : Int)) = false → ((0 : Int) ≤ (↑x.fst : Int) ∧ (↑x.fst : Int) < (↑l.length : Int)) ∧ ∀ (y_1 : Int × Int × Int × Int × Int), l[(↑x.fst : Int).toNat]? = some y_1 → ((x.snd.fst ++ x.snd.snd.snd).length + ((y_1.fst, y_1.snd.fst, y_1.snd.snd.fst, y_1.snd.snd.snd.fst, y_1.snd.snd.snd.snd) :: ([] : List (Int × Int × Int × Int × Int))).length) * (40 : Nat) ≤ (140737488355328 : Nat) ∧ ((List.map lnB (x.snd.fst ++ x.snd.snd.snd)).length + ((lineF (y.fst, y.snd.fst, y.snd.snd.fst, y.snd.snd.snd.fst, y.snd.snd.snd.snd)).fst :: ([] : List ByteArray)).length) * (16 : Nat) ≤ (140737488355328 : Nat) ∧ (9 : Int) ≠ (0 : Int) ∧ (((↑x.fst : Int) == g.tmod (9 : Int)) = true → ((moreB x.snd.fst x.snd.snd.fst x.snd.snd.snd).length + (ByteArray.mk ([] : List UInt8).toArray :: ByteArray.mk ((110 : UInt8) :: (111 : UInt8) :: (98 : UInt8) :: (111 : UInt8) :: (100 : UInt8) :: (121 : UInt8) :: (58 : UInt8) :: ([] : List UInt8)).toArray :: ([] : List ByteArray)).length) * (16 : Nat) ≤ (140737488355328 : Nat) ∧ ((moreB x.snd.fst x.snd.snd.fst x.snd.snd.snd ++ ByteArray.mk ([] : List UInt8).toArray :: ByteArray.mk ((110 : UInt8) :: (111 : UInt8) :: (98 : UInt8) :: (111 : UInt8) :: (100 : UInt8) :: (121 : UInt8) :: (58 : UInt8) :: ([] : List UInt8)).toArray :: ([] : List ByteArray)).length + ((lineF (y.fst, y.snd.fst, y.snd.snd.fst, y.snd.snd.snd.fst, y.snd.snd.snd.snd)).fst :: ([] : List ByteArray)).length) * (16 : Nat) ≤ (140737488355328 : Nat) ∧ ((-9223372036854775808 : Int) ≤ (↑x.fst : Int) + (1 : Int) ∧ (↑x.fst : Int) + (1 : Int) ≤ (9223372036854775807 : Int)) ∧ ∃ (y_2 : Nat × List IN × Bool × List IN), B5 l g y_2 ∧ l.length - y_2.fst < l.length - x.fst ∧ l ≍ l ∧ g = g ∧ (↑x.fst : Int) + (1 : Int) = (↑y_2.fst : Int) ∧ List.map lnB (x.snd.fst ++ x.snd.snd.snd) ++ (lineF (y.fst, y.snd.fst, y.snd.snd.fst, y.snd.snd.snd.fst, y.snd.snd.snd.snd)).fst :: ([] : List ByteArray) ≍ List.map lnB (y_2.snd.fst ++ y_2.snd.snd.snd) ∧ moreB x.snd.fst x.snd.snd.fst x.snd.snd.snd ++ ByteArray.mk ([] : List UInt8).toArray :: ByteArray.mk ((110 : UInt8) :: (111 : UInt8) :: (98 : UInt8) :: (111 : UInt8) :: (100 : UInt8) :: (121 : UInt8) :: (58 : UInt8) :: ([] : List UInt8)).toArray :: ([] : List ByteArray) ++ (lineF (y.fst, y.snd.fst, y.snd.snd.fst, y.snd.snd.snd.fst, y.snd.snd.snd.snd)).fst :: ([] : List ByteArray) ≍ moreB y_2.snd.fst y_2.snd.snd.fst y_2.snd.snd.snd ∧ x.snd.fst ++ x.snd.snd.snd ++ (y_1.fst, y_1.snd.fst, y_1.snd.snd.fst, y_1.snd.snd.snd.fst, y_1.snd.snd.snd.snd) :: ([] : List (Int × Int × Int × Int × Int)) ≍ y_2.snd.fst ++ y_2.snd.snd.snd ∧ True) ∧ (((↑x.fst : Int) == g.tmod (9 : Int)) = false → ((moreB x.snd.fst x.snd.snd.fst x.snd.snd.snd).length + ((lineF (y.fst, y.snd.fst, y.snd.snd.fst, y.snd.snd.snd.fst, y.snd.snd.snd.snd)).fst :: ([] : List ByteArray)).length) * (16 : Nat) ≤ (140737488355328 : Nat) ∧ ((-9223372036854775808 : Int) ≤ (↑x.fst : Int) + (1 : Int) ∧ (↑x.fst : Int) + (1 : Int) ≤ (9223372036854775807 : Int)) ∧ ∃ (y_2 : Nat × List IN × Bool × List IN), B5 l g y_2 ∧ l.length - y_2.fst < l.length - x.fst ∧ l ≍ l ∧ g = g ∧ (↑x.fst : Int) + (1 : Int) = (↑y_2.fst : Int) ∧ List.map lnB (x.snd.fst ++ x.snd.snd.snd) ++ (lineF (y.fst, y.snd.fst, y.snd.snd.fst, y.snd.snd.snd.fst, y.snd.snd.snd.snd)).fst :: ([] : List ByteArray) ≍ List.map lnB (y_2.snd.fst ++ y_2.snd.snd.snd) ∧ moreB x.snd.fst x.snd.snd.fst x.snd.snd.snd ++ (lineF (y.fst, y.snd.fst, y.snd.snd.fst, y.snd.snd.snd.fst, y.snd.snd.snd.snd)).fst :: ([] : List ByteArray) ≍ moreB y_2.snd.fst y_2.snd.snd.fst y_2.snd.snd.snd ∧ x.snd.fst ++ x.snd.snd.snd ++ (y_1.fst, y_1.snd.fst, y_1.snd.snd.fst, y_1.snd.snd.snd.fst, y_1.snd.snd.snd.snd) :: ([] : List (Int × Int × Int × Int × Int)) ≍ y_2.snd.fst ++ y_2.snd.snd.snd ∧ True))) ∧ (decide ((↑x.fst : Int) < (↑l.length : Int)) = false → ((List.map lnB (x.snd.fst ++ x.snd.snd.snd)).length ≤ (50000 : Nat) ∧ ∀ (s : ByteArray), s ∈ List.map lnB (x.snd.fst ++ x.snd.snd.snd) → s.size ≤ (1000000 : Nat)) ∧ ∀ (y : Tup (pNs :: pI :: pI :: ([] : List PS))), y = asmF (List.map lnB (x.snd.fst ++ x.snd.snd.snd)) → ((moreB x.snd.fst x.snd.snd.fst x.snd.snd.snd).length ≤ (50000 : Nat) ∧ ∀ (s : ByteArray), s ∈ moreB x.snd.fst x.snd.snd.fst x.snd.snd.snd → s.size ≤ (1000000 : Nat)) ∧ ∀ (y_1 : Tup (pNs :: pI :: pI :: ([] : List PS))), y_1 = asmF (moreB x.snd.fst x.snd.snd.fst x.snd.snd.snd) → ((y.snd.snd == (0 : Int) && y_1.snd.snd == (0 : Int)) = true → (eqN (y.fst, x.snd.fst ++ x.snd.snd.snd) = true → (eqN (y_1.fst, x.snd.fst ++ x.snd.snd.snd) = true → true = true ∧ True) ∧ (eqN (y_1.fst, x.snd.fst ++ x.snd.snd.snd) = false → false = true ∧ True)) ∧ (eqN (y.fst, x.snd.fst ++ x.snd.snd.snd) = false → false = true ∧ True)) ∧ ((y.snd.snd == (0 : Int) && y_1.snd.snd == (0 : Int)) = false → false = true ∧ True)))) = _) ?_
  refine ⟨fun _ => ⟨rfl, trivial⟩, fun h => ?_⟩
  have h : l.length ≤ 200 := by simp only [decide_eq_false_iff_not] at h; omega
  refine ⟨⟨(0, [], false, []), ⟨Nat.zero_le _, fun y hy => (by cases hy), Nat.le_refl _, fun e => (by cases e), fun _ => rfl⟩, HEq.rfl, rfl, rfl, rfl, rfl, rfl, trivial⟩, ?_⟩
  rintro ⟨k, A, b, B⟩ hx
  have h1 := hx.k; have h2 := hx.o; have h3 := hx.n; have h4 := hx.t; have h5 := hx.f
  dsimp only at h1 h2 h3 h4 h5 ⊢
  have h6 := more_len A B b
  have h7 : ((A ++ B).map lnB).length = (A ++ B).length := by simp
  refine ⟨fun hk => ?_, fun hk => ?_⟩
  · have hkl : k < l.length := by simp only [decide_eq_true_eq] at hk; omega
    refine ⟨⟨by omega, by omega⟩, fun y hy => ⟨fun hg => ?_, fun hg => ⟨⟨by omega, by omega⟩, fun z hz => ?_⟩⟩⟩
    · refine ⟨by omega, (k + 1, A, b, B), ⟨hkl, h2, by dsimp only; omega, fun e => by have := h4 e; dsimp only; omega, h5⟩, by dsimp only; omega, HEq.rfl, rfl, by simp, HEq.rfl, HEq.rfl, HEq.rfl, trivial⟩
    · have e : y = z := Option.some.inj (hy.symm.trans hz)
      subst e
      have hgd : goodF y = true := by
        cases hb : goodF y with
        | true => rfl
        | false =>
          have : lineF (y.1, y.2.1, y.2.2.1, y.2.2.2.1, y.2.2.2.2) = (⟨#[]⟩, 11) := lineF_f hb
          rw [this] at hg; cases hg
      have hl : lineF (y.1, y.2.1, y.2.2.1, y.2.2.2.1, y.2.2.2.2) = (lnB y, 0) := lineF_t hgd
      rw [hl]
      dsimp only
      have hm : ∀ z ∈ (A ++ B) ++ [y], goodF z = true := fun z hz => by
        rcases List.mem_append.1 hz with hz | hz
        · exact h2 z hz
        · rw [List.mem_singleton.1 hz]; exact hgd
      have hn : ((A ++ B) ++ [y]).length ≤ k + 1 := by rw [List.length_append, List.length_singleton]; omega
      refine ⟨by simp only [List.length_singleton]; omega, by simp only [List.length_singleton]; omega, by decide, fun hc => ?_, fun hc => ?_⟩
      · have hc : (k : Int) = g.tmod 9 := by simpa using hc
        have hb : b = false := by
          cases b with
          | false => rfl
          | true => have := h4 rfl; omega
        subst hb
        have hB := h5 rfl
        subst hB
        rw [List.append_nil] at hm hn h7 ⊢
        have h6 : (moreB A false []).length ≤ A.length + 2 := by simpa using h6
        have h3 : A.length ≤ k := by simpa using h3
        refine ⟨by simp only [List.length_cons, List.length_nil]; omega, by simp only [List.length_append, List.length_cons, List.length_nil]; omega, by omega, (k + 1, A, true, [y]), ⟨hkl, hm, hn, fun _ => by dsimp only; omega, fun e => by cases e⟩, by dsimp only; omega, HEq.rfl, rfl, by simp, ?_, ?_, HEq.rfl, trivial⟩
        · exact heq_of_eq (map_snoc A y).symm
        · exact heq_of_eq (more_turn A y).symm
      · refine ⟨by simp only [List.length_cons, List.length_nil]; omega, by omega, ?_⟩
        cases b with
        | true =>
          rw [List.append_assoc] at hm hn
          refine ⟨(k + 1, A, true, B ++ [y]), ⟨hkl, hm, hn, fun _ => by have := h4 rfl; dsimp only; omega, fun e => by cases e⟩, by dsimp only; omega, HEq.rfl, rfl, by simp, ?_, ?_, ?_, trivial⟩
          · exact heq_of_eq (by dsimp only; rw [← List.append_assoc, map_snoc])
          · exact heq_of_eq (more_snoc A B y).symm
          · exact heq_of_eq (by dsimp only; rw [← List.append_assoc])
        | false =>
          have hB := h5 rfl
          subst hB
          rw [List.append_nil] at hm hn ⊢
          refine ⟨(k + 1, A ++ [y], false, []), ⟨hkl, by rw [List.append_nil]; exact hm, by rw [List.append_nil]; exact hn, fun e => (by cases e), fun _ => rfl⟩, by dsimp only; omega, HEq.rfl, rfl, by simp, ?_, ?_, ?_, trivial⟩
          · exact heq_of_eq (by dsimp only; rw [List.append_nil, map_snoc])
          · exact heq_of_eq (more_snoc0 A y).symm
          · exact heq_of_eq (by dsimp only; rw [List.append_nil])
  · have hA : (A ++ B).length ≤ 4096 := by omega
    rw [h7]
    refine ⟨⟨by omega, fun s hs => ?_⟩, fun y hy => ⟨⟨by omega, more_mem h2⟩, fun z hz => ?_⟩⟩
    · obtain ⟨x, hx, rfl⟩ := List.mem_map.1 hs; exact ln_size (h2 x hx)
    · have hy : y = (A ++ B, 0, 0) := hy.trans (asm_lns h2 hA)
      have hz : z = (A ++ B, 0, 0) := hz.trans (asm_more h2 hA)
      subst hy; subst hz
      have e : eqN (A ++ B, A ++ B) = true := by simp [eqN]
      refine ⟨fun _ => ⟨fun _ => ⟨fun _ => ⟨rfl, trivial⟩, fun q => ?_⟩, fun q => ?_⟩, fun q => (by cases q)⟩
      · dsimp only at q; rw [e] at q; cases q
      · dsimp only at q; rw [e] at q; cases q
section
variable {H : Type} {enc : TypeId × Value → H} {base : Nat} (W : World)
theorem back_walk (hg : GlOk (fun k => k < W.heap.size) W) (v0 v1 : Value) (a0 : Arg enc Tryz.prog W base 25 v0) (a1 : Arg enc Tryz.prog W base 5 v1) : Calls Tryz.prog 5 #[v0, v1] W fun e w' => e = .returned (.bool true) ∧ Below W.heap.size W w' :=
  law_of (ps := [pNs, pU8]) (ts := [25, 5]) (vs := [v0, v1]) mixed Tbl_ok N20_ok Tryz.func5 rfl (by kernel_rfl) ⟨a0, a1, trivial⟩ back_law hg
end
end Go.Proofs.YtnbbooilapelmaaGreatDoor.V

namespace Go.Proofs.YtnbbooilapelmaaGreatDoor.V
open Go.RowKit Go.Proofs.YtnbbooilapelmaaGreatDoor
set_option linter.unusedSimpArgs false
set_option pp.deepTerms true
set_option pp.maxSteps 200000
def hB : ByteArray := ⟨#[104, 101, 114, 101, 58]⟩
def jB : ByteArray := ⟨#[106, 109, 112, 32, 104, 101, 114, 101]⟩
def hW : ByteArray := mkW [104, 101, 114, 101]
abbrev J0 : IN := (17, 0, 0, 0, 0)
set_option maxRecDepth 4000 in
theorem wlj : insW numP (wd jB) = some (J0, hW) := by
  have hw : wd jB = [mkW [106, 109, 112], mkW [104, 101, 114, 101]] := rfl
  have hi : idxI (mkW [106, 109, 112]) nmL = 17 := by decide
  have hh : (hasS 17).data.toList = [73] := by decide
  rw [hw, insW_go (by rw [hi]; decide), hi, hh, goI, fld73, num_none (by decide)]
  dsimp only
  rw [if_pos (by decide)]
  exact guard_t (by decide)
theorem step_j (line : Int) (x : AS) : stepE line jB x = 0 ∧ stepX line jB x = (x.1 ++ [J0], x.2.1, x.2.2 ++ [((x.1.length : Int), line, hW)]) :=
  step_ins (by decide) (by decide) wlj
def uj : Nat → Nat → Nat → List UN
  | _, _, 0 => []
  | i, n, m + 1 => ((n : Int), (i : Int), hW) :: uj (i + 1) (n + 1) m
theorem run_j : ∀ (m i : Nat) (r : List ByteArray) (l : List IN) (ms : List MN) (us : List UN), runA (i : Int) (List.replicate m jB ++ r) (l, ms, us) = runA ((i + m : Nat) : Int) r (l ++ List.replicate m J0, ms, us ++ uj i l.length m)
  | 0, i, r, l, ms, us => by simp [uj]
  | m + 1, i, r, l, ms, us => by
    rw [List.replicate_succ, List.cons_append, runA_go (step_j i _)]
    have := run_j m (i + 1) r (l ++ [J0]) ms (us ++ [((l.length : Int), (i : Int), hW)])
    rw [show ((i + 1 : Nat) : Int) = (i : Int) + 1 by omega] at this
    dsimp only
    rw [this, List.append_assoc, List.append_assoc, List.length_append, List.length_singleton, show i + 1 + m = i + (m + 1) by omega]
    rfl
def jL (k p i : Nat) : List ByteArray := if i ≤ p then List.replicate i jB else List.replicate p jB ++ hB :: List.replicate (min i k - p) jB
theorem jL_step {k p i : Nat} (hp : p ≤ k) (hi : i ≤ k) : jL k p (i + 1) = (if i = p then jL k p i ++ [hB] else jL k p i) ++ (if i < k then [jB] else []) := by
  unfold jL
  rcases Nat.lt_trichotomy i p with h | h | h
  · rw [if_pos (by omega), if_neg (by omega), if_pos (by omega), if_pos (by omega), List.replicate_succ']
  · subst h
    rw [if_neg (by omega), if_pos rfl, if_pos (Nat.le_refl _)]
    by_cases hk : i < k
    · rw [if_pos hk, show min (i + 1) k - i = 1 by omega]; simp
    · rw [if_neg hk, show min (i + 1) k - i = 0 by omega]; simp
  · rw [if_neg (by omega), if_neg (by omega), if_neg (by omega)]
    by_cases hk : i < k
    · rw [if_pos hk, show min (i + 1) k - p = (min i k - p) + 1 by omega, List.replicate_succ']; simp
    · rw [if_neg hk, show min (i + 1) k - p = min i k - p by omega]; simp
theorem jL_end {k p : Nat} (hp : p ≤ k) : jL k p (k + 1) = List.replicate p jB ++ hB :: List.replicate (k - p) jB := by
  rw [jL, if_neg (by omega), show min (k + 1) k = k by omega]
def jA (k p : Nat) : AS := (List.replicate p J0 ++ List.replicate (k - p) J0, [(hW, (p : Int))], uj 0 0 p ++ uj (p + 1) p (k - p))
theorem run_jL {k p : Nat} (hp : p ≤ k) (r : List ByteArray) : runA 0 (jL k p (k + 1) ++ r) aZ = runA ((k + 1 : Nat) : Int) r (jA k p) := by
  rw [jL_end hp, List.append_assoc, List.cons_append]
  have h1 := run_j p 0 (hB :: (List.replicate (k - p) jB ++ r)) [] [] []
  rw [show ((0 : Nat) : Int) = 0 from rfl] at h1
  rw [h1, List.nil_append, List.nil_append, Nat.zero_add, List.length_nil]
  rw [runA_go (step_lab (by decide) (by decide) (by decide) rfl)]
  have h2 := run_j (k - p) (p + 1) r (List.replicate p J0) [(hB.extract 0 (hB.size - 1), ((List.replicate p J0).length : Int))] (uj 0 0 p)
  rw [show ((p + 1 : Nat) : Int) = (p : Int) + 1 by omega] at h2
  dsimp only
  rw [List.nil_append, h2, List.length_replicate, show p + 1 + (k - p) = k + 1 by omega]
  rfl
def jA_chk (k p : Nat) : Bool := decide ((asmE (jA k p)).1 = List.replicate k ((17, 0, 0, 0, (p : Int)) : IN)) && (decide ((asmE (jA k p)).2.1 = 0) && decide ((asmE (jA k p)).2.2 = 0))
set_option maxRecDepth 20000 in
theorem jA_all : ((List.range 13).all fun k => (List.range 13).all fun p => !(Nat.ble p k) || jA_chk k p) = true := by kernel_rfl
theorem jA_end {k p : Nat} (hk : k < 13) (hp : p ≤ k) : asmE (jA k p) = (List.replicate k ((17, 0, 0, 0, (p : Int)) : IN), 0, 0) := by
  have h := List.all_eq_true.1 (List.all_eq_true.1 jA_all k (List.mem_range.2 hk)) p (List.mem_range.2 (by omega))
  rw [Nat.ble_eq_true_of_le hp, Bool.not_true, Bool.false_or, jA_chk, Bool.and_eq_true, Bool.and_eq_true, decide_eq_true_eq, decide_eq_true_eq, decide_eq_true_eq] at h
  exact Prod.ext h.1 (Prod.ext h.2.1 h.2.2)
theorem asm_jL {k p : Nat} (hp : p ≤ k) (hk : k < 13) : asmF (jL k p (k + 1)) = (List.replicate k ((17, 0, 0, 0, (p : Int)) : IN), 0, 0) := by
  have h := run_jL hp []
  rw [List.append_nil, runA] at h
  rw [asmF_end h, jA_end hk hp]
theorem asm_bad {L : List ByteArray} {x : AS} {i e : Int} (h : runA 0 L aZ = (x, some (i, e))) : asmF L = ([], i, e) := by
  rw [asmF, h]
theorem asm_twice {k p : Nat} (hp : p ≤ k) : asmF (jL k p (k + 1) ++ [hB]) = ([], ((k + 1 : Nat) : Int), 20) := by
  have h := run_jL hp [hB]
  have hE : stepE ((k + 1 : Nat) : Int) hB (jA k p) = 20 := by
    have hf : fM (jA k p).2.1 (hB.extract 0 (hB.size - 1)) = some (p : Int) := rfl
    rw [stepE, if_neg (by decide), if_pos (by decide), if_pos (by decide), hf]; rfl
  rw [runA, if_neg (by rw [hE]; decide), hE] at h
  exact asm_bad h
theorem jL_mem {k p i : Nat} : ∀ s ∈ jL k p i, ByteArray.size s ≤ 1000000 := by
  intro s hs
  have key : ∀ s ∈ [hB, jB], ByteArray.size s ≤ 1000000 := by decide
  have : s = hB ∨ s = jB := by
    unfold jL at hs
    split at hs
    · exact .inr (List.eq_of_mem_replicate hs)
    · rcases List.mem_append.1 hs with hs | hs
      · exact .inr (List.eq_of_mem_replicate hs)
      · rcases List.mem_cons.1 hs with hs | hs
        · exact .inl hs
        · exact .inr (List.eq_of_mem_replicate hs)
  rcases this with rfl | rfl
  · exact key _ (by simp)
  · exact key _ (by simp)
theorem jL_len {k p i : Nat} : (jL k p i).length ≤ i + p + k + 1 := by
  unfold jL
  split
  · simp; omega
  · simp only [List.length_append, List.length_replicate, List.length_cons]; omega
theorem jL_fin {k p : Nat} (hp : p ≤ k) : (jL k p (k + 1)).length = k + 1 := by
  rw [jL_end hp]; simp; omega
end Go.Proofs.YtnbbooilapelmaaGreatDoor.V

namespace Go.Proofs.YtnbbooilapelmaaGreatDoor.V
open Go.RowKit Go.Proofs.YtnbbooilapelmaaGreatDoor
set_option linter.unusedSimpArgs false
set_option pp.deepTerms true
set_option pp.maxSteps 200000
def cod1 : PT where
  ps := [.one (.s 0)]
  rg := [(0, .own 40 shI)]
  na := 1
  rs := [.one (.s 1), .one Iy]
  out := [(0, .own 40 shI), (1, .own 67 (.int .u64))]
  nx := 2
  pre := fun (l, _) => l.length ≤ 1000000
  post := fun (l, _) (e, l', w, _) => l' = l ∧ (w, e) = codeF l
abbrev lpc (l : List IN) : Nat → Option LoopSp := fun _ => some { X := Nat, sl := fun k => [(4, .one (.sl 1)), (9, .one (.sl 0)), (10, .one (vi l.length)), (11, .one (vi k))], h := fun k => [(0, .own 40 shI l), (1, .own 67 (.int .u64) ((l.take k).map encW))], nx := 2, inv := fun k => k ≤ l.length ∧ (l.take k).all goodF = true, mu := fun k => l.length - k }
theorem f13a {l : List IN} {e : Int} (h : codeF l = ([], e)) : ∃ (x : Int) (x_1 : List IN) (x_2 : List Int), (e = x ∧ HEq l x_1 ∧ x_2 = [] ∧ True) ∧ x_1 = l ∧ (x_2, x) = codeF l := ⟨e, l, [], ⟨rfl, HEq.rfl, rfl, trivial⟩, rfl, h.symm⟩
theorem f13b {l : List IN} {w : List Int} (h : codeF l = (w, 0)) : ∃ (x : Int) (x_1 : List IN) (x_2 : List Int), ((0 : Int) = x ∧ HEq l x_1 ∧ HEq w x_2 ∧ True) ∧ x_1 = l ∧ (x_2, x) = codeF l := ⟨0, l, w, ⟨rfl, HEq.rfl, HEq.rfl, trivial⟩, rfl, h.symm⟩
theorem c13 : Valid Tryz.prog 13 (.full cod1.call) := by
  refine valid_P mixed Tbl_ok N1_ok Tryz.func13 call13 ?_
  intro (l : List IN) hp hr hh
  refine ⟨lpc l, ?_⟩
  refine Eq.mp (by kernel_rfl : ((∃ (x : Nat), (x ≤ l.length ∧ (List.take x l).all goodF = true) ∧ (↑l.length : Int) = (↑l.length : Int) ∧ (0 : Int) = (↑x : Int) ∧ l ≍ l ∧ List.map encW (List.take x l) = ([] : List Int) ∧ True) ∧ ∀ (x : Nat), x ≤ l.length ∧ (List.take x l).all goodF = true → (decide ((↑x : Int) < (↑l.length : Int)) = true → ((0 : Int) ≤ (↑x : Int) ∧ (↑x : Int) < (↑l.length : Int)) ∧ (↑x : Int).toNat < l.length ∧ ∀ (y : Int × Int × Int × Int × Int), l[(↑x : Int).toNat]? = some y → (((encF (y.fst, y.snd.fst, y.snd.snd.fst, y.snd.snd.snd.fst, y.snd.snd.snd.snd)).snd != (0 : Int)) = true → ∃ (x : Int), ∃ (x_1 : List (Int × Int × Int × Int × Int)), ∃ (x_2 : List Int), ((encF (y.fst, y.snd.fst, y.snd.snd.fst, y.snd.snd.snd.fst, y.snd.snd.snd.snd)).snd = x ∧ l ≍ x_1 ∧ x_2 = ([] : List Int) ∧ True) ∧ x_1 = l ∧ (x_2, x) = codeF l) ∧ (((encF (y.fst, y.snd.fst, y.snd.snd.fst, y.snd.snd.snd.fst, y.snd.snd.snd.snd)).snd != (0 : Int)) = false → ((List.map encW (List.take x l)).length + ((encF (y.fst, y.snd.fst, y.snd.snd.fst, y.snd.snd.snd.fst, y.snd.snd.snd.snd)).fst :: ([] : List Int)).length) * (8 : Nat) ≤ (140737488355328 : Nat) ∧ ((-9223372036854775808 : Int) ≤ (↑x : Int) + (1 : Int) ∧ (↑x : Int) + (1 : Int) ≤ (9223372036854775807 : Int)) ∧ ∃ (y_1 : Nat), (y_1 ≤ l.length ∧ (List.take y_1 l).all goodF = true) ∧ l.length - y_1 < l.length - x ∧ (↑l.length : Int) = (↑l.length : Int) ∧ (↑x : Int) + (1 : Int) = (↑y_1 : Int) ∧ l ≍ l ∧ List.map encW (List.take x l) ++ (encF (y.fst, y.snd.fst, y.snd.snd.fst, y.snd.snd.snd.fst, y.snd.snd.snd.snd)).fst :: ([] : List Int) ≍ List.map encW (List.take y_1 l) ∧ True)) ∧ (decide ((↑x : Int) < (↑l.length : Int)) = false → (decide ((↑(List.map encW (List.take x l)).length : Int) > (4096 : Int)) = true → ∃ (x : Int), ∃ (x_1 : List (Int × Int × Int × Int × Int)), ∃ (x_2 : List Int), ((3 : Int) = x ∧ l ≍ x_1 ∧ x_2 = ([] : List Int) ∧ True) ∧ x_1 = l ∧ (x_2, x) = codeF l) ∧ (decide ((↑(List.map encW (List.take x l)).length : Int) > (4096 : Int)) = false → ∃ (x_1 : Int), ∃ (x_2 : List (Int × Int × Int × Int × Int)), ∃ (x_3 : List Int), ((0 : Int) = x_1 ∧ l ≍ x_2 ∧ List.map encW (List.take x l) ≍ x_3 ∧ True) ∧ x_2 = l ∧ (x_3, x_1) = codeF l))) = _) ?_
  have hp : l.length ≤ 1000000 := hp
  refine ⟨⟨0, ⟨Nat.zero_le _, rfl⟩, rfl, rfl, HEq.rfl, rfl, trivial⟩, fun x h => ⟨fun h1 => ⟨by simp only [decide_eq_true_eq] at h1; omega, by simp only [decide_eq_true_eq] at h1; omega, fun y hy => ?_⟩, fun h1 => ?_⟩⟩
  · rw [Int.toNat_natCast] at hy
    obtain ⟨k1, k2⟩ := codeF_step (K := fun z => (-9223372036854775808 ≤ (x : Int) + 1 ∧ (x : Int) + 1 ≤ 9223372036854775807) ∧ z = x + 1 ∧ (z ≤ l.length ∧ (l.take z).all goodF = true) ∧ (l.take x).map encW ++ [(encF y).1] = (l.take z).map encW) h hy hp (fun a b => ⟨by omega, rfl, a, b⟩)
    refine ⟨fun h2 => ?_, fun h2 => ?_⟩
    · obtain ⟨e1, e2⟩ := k1 h2
      exact f13a (by rw [e1]; exact congrArg (Prod.mk _) e2.symm)
    · obtain ⟨a, b, _, c, d⟩ := k2 h2
      exact ⟨a, b, x + 1, c, by omega, rfl, by simp, HEq.rfl, heq_of_eq d, trivial⟩
  · have h1 : l.length ≤ x := by simp only [decide_eq_false_iff_not] at h1; omega
    have hx : x = l.length := by have := h.1; omega
    subst hx
    have e := codeF_end h1 h.2
    rw [List.take_length, List.length_map]
    refine ⟨fun h2 => f13a ?_, fun h2 => f13b ?_⟩
    · rw [e, decide_eq_false (by simp only [decide_eq_true_eq] at h2; omega)]
    · rw [e, decide_eq_true (by simp only [decide_eq_false_iff_not] at h2; omega)]
def asm1 : PT where
  ps := [.one (.s 0)]
  rg := [(0, .own 9 .str)]
  na := 1
  rs := [.one (.s 1), .one Iy, .one Iy]
  out := [(0, .own 9 .str), (1, .own 40 shI)]
  nx := 2
  pre := fun (L, _) => asmP L
  post := fun (L, _) (a, e, L', l, _) => L' = L ∧ (l, a, e) = asmF L
abbrev hB1 (L : List ByteArray) (A : AS) (l : List IN) : List (Nat × Ck) := [(0, .own 9 .str L), (1, .blk [.sl 2, .mv 3, .sl 4] 53), (2, .own 40 shI l), (3, .mp .str (.int .i64) A.2.1), (4, .own 56 shUse A.2.2)]
abbrev lpa (L : List ByteArray) : Nat → Option LoopSp := fun r => match r with
  | 3 => some { X := Nat × AS, sl := fun x => [(5, .one (.ptr 1 0)), (16, .one (.sl 0)), (17, .one (vi L.length)), (18, .one (vi x.1))], h := fun x => hB1 L x.2 x.2.1, nx := 5, inv := fun x => I10 L x.1 x.2, mu := fun x => L.length - x.1 }
  | 10 => some { X := AS × Nat, sl := fun x => [(5, .one (.ptr 1 0)), (35, .one (.sl 4)), (36, .one (vi x.1.2.2.length)), (37, .one (vi x.2))], h := fun x => hB1 L x.1 (patch x.1.2.1 (x.1.2.2.take x.2) x.1.1), nx := 5, inv := fun x => J10 L x.1 x.2, mu := fun x => x.1.2.2.length - x.2 }
  | _ => none
theorem f10a {L : List ByteArray} {a e : Int} (h : asmF L = ([], a, e)) : ∃ (x x1 : Int) (x2 : List ByteArray) (x3 : List IN), (a = x ∧ e = x1 ∧ HEq L x2 ∧ x3 = [] ∧ True) ∧ x2 = L ∧ (x3, x, x1) = asmF L := ⟨a, e, L, [], ⟨rfl, rfl, HEq.rfl, rfl, trivial⟩, rfl, h.symm⟩
theorem f10b {L : List ByteArray} {l : List IN} (h : asmF L = (l, 0, 0)) : ∃ (x x1 : Int) (x2 : List ByteArray) (x3 : List IN), ((0 : Int) = x ∧ (0 : Int) = x1 ∧ HEq L x2 ∧ HEq l x3 ∧ True) ∧ x2 = L ∧ (x3, x, x1) = asmF L := ⟨0, 0, L, l, ⟨rfl, rfl, HEq.rfl, HEq.rfl, trivial⟩, rfl, h.symm⟩
theorem c10 : Valid Tryz.prog 10 (.full asm1.call) := by
  refine valid_P mixed Tbl_ok N17_ok Tryz.func10 call10 ?_
  intro (L : List ByteArray) hp hr hh
  refine ⟨lpa L, ?_⟩
  refine Eq.mp (by kernel_rfl : ((∃ (x : Nat × AS), I10 L x.fst x.snd ∧ (↑L.length : Int) = (↑L.length : Int) ∧ (0 : Int) = (↑x.fst : Int) ∧ L ≍ L ∧ x.snd.fst = ([] : List (Int × Int × Int × Int × Int)) ∧ ([] : List (ByteArray × Int)) ≍ x.snd.snd.fst ∧ x.snd.snd.snd = ([] : List (Int × Int × ByteArray)) ∧ True) ∧ ∀ (x : Nat × AS), I10 L x.fst x.snd → (decide ((↑x.fst : Int) < (↑L.length : Int)) = true → ((0 : Int) ≤ (↑x.fst : Int) ∧ (↑x.fst : Int) < (↑L.length : Int)) ∧ (↑x.fst : Int).toNat < L.length ∧ ∀ (y : ByteArray), L[(↑x.fst : Int).toNat]? = some y → (x.snd.fst.length ≤ (100000 : Nat) ∧ x.snd.snd.snd.length ≤ (100000 : Nat) ∧ y.size ≤ (1000000 : Nat)) ∧ ∀ (x_1 : Int) (x_2 : List (Int × Int × Int × Int × Int)) (x_3 : List (ByteArray × Int)) (x_4 : List (Int × Int × ByteArray)), x_1 = stepE (↑x.fst : Int) y (x.snd.fst, x.snd.snd.fst, x.snd.snd.snd) ∧ (x_1 = (0 : Int) → (x_2, x_3, x_4) = stepX (↑x.fst : Int) y (x.snd.fst, x.snd.snd.fst, x.snd.snd.snd)) → ((x_1 != (0 : Int)) = true → ∃ (x_5 : Int), ∃ (x_6 : Int), ∃ (x_7 : List ByteArray), ∃ (x_8 : List (Int × Int × Int × Int × Int)), ((↑x.fst : Int) = x_5 ∧ x_1 = x_6 ∧ L ≍ x_7 ∧ x_8 = ([] : List (Int × Int × Int × Int × Int)) ∧ True) ∧ x_7 = L ∧ (x_8, x_5, x_6) = asmF L) ∧ ((x_1 != (0 : Int)) = false → ((-9223372036854775808 : Int) ≤ (↑x.fst : Int) + (1 : Int) ∧ (↑x.fst : Int) + (1 : Int) ≤ (9223372036854775807 : Int)) ∧ ∃ (y : Nat × AS), I10 L y.fst y.snd ∧ L.length - y.fst < L.length - x.fst ∧ (↑L.length : Int) = (↑L.length : Int) ∧ (↑x.fst : Int) + (1 : Int) = (↑y.fst : Int) ∧ L ≍ L ∧ x_2 ≍ y.snd.fst ∧ x_3 ≍ y.snd.snd.fst ∧ x_4 ≍ y.snd.snd.snd ∧ True)) ∧ (decide ((↑x.fst : Int) < (↑L.length : Int)) = false → (∃ (x_1 : AS × Nat), J10 L x_1.fst x_1.snd ∧ (↑x.snd.snd.snd.length : Int) = (↑x_1.fst.snd.snd.length : Int) ∧ (0 : Int) = (↑x_1.snd : Int) ∧ L ≍ L ∧ x.snd.fst ≍ patch x_1.fst.snd.fst (List.take x_1.snd x_1.fst.snd.snd) x_1.fst.fst ∧ x.snd.snd.fst ≍ x_1.fst.snd.fst ∧ x.snd.snd.snd ≍ x_1.fst.snd.snd ∧ True) ∧ ∀ (x : AS × Nat), J10 L x.fst x.snd → (decide ((↑x.snd : Int) < (↑x.fst.snd.snd.length : Int)) = true → ((0 : Int) ≤ (↑x.snd : Int) ∧ (↑x.snd : Int) < (↑x.fst.snd.snd.length : Int)) ∧ (↑x.snd : Int).toNat < x.fst.snd.snd.length ∧ ∀ (y : Int × Int × ByteArray), x.fst.snd.snd[(↑x.snd : Int).toNat]? = some y → (∀ (v : Int), fndM Sh.str (Sh.int IntKind.i64) x.fst.snd.fst y.snd.snd = some v → ((0 : Int) ≤ y.fst ∧ y.fst < (↑(patch x.fst.snd.fst (List.take x.snd x.fst.snd.snd) x.fst.fst).length : Int)) ∧ y.fst.toNat < (patch x.fst.snd.fst (List.take x.snd x.fst.snd.snd) x.fst.fst).length ∧ ∀ (z : Int × Int × Int × Int × Int), (patch x.fst.snd.fst (List.take x.snd x.fst.snd.snd) x.fst.fst)[y.fst.toNat]? = some z → ((-9223372036854775808 : Int) ≤ (↑x.snd : Int) + (1 : Int) ∧ (↑x.snd : Int) + (1 : Int) ≤ (9223372036854775807 : Int)) ∧ ∃ (y_1 : AS × Nat), J10 L y_1.fst y_1.snd ∧ y_1.fst.snd.snd.length - y_1.snd < x.fst.snd.snd.length - x.snd ∧ (↑x.fst.snd.snd.length : Int) = (↑y_1.fst.snd.snd.length : Int) ∧ (↑x.snd : Int) + (1 : Int) = (↑y_1.snd : Int) ∧ L ≍ L ∧ (patch x.fst.snd.fst (List.take x.snd x.fst.snd.snd) x.fst.fst).set y.fst.toNat (z.fst, z.snd.fst, z.snd.snd.fst, z.snd.snd.snd.fst, v) ≍ patch y_1.fst.snd.fst (List.take y_1.snd y_1.fst.snd.snd) y_1.fst.fst ∧ x.fst.snd.fst ≍ y_1.fst.snd.fst ∧ x.fst.snd.snd ≍ y_1.fst.snd.snd ∧ True) ∧ (fndM Sh.str (Sh.int IntKind.i64) x.fst.snd.fst y.snd.snd = (none : Option Int) → ∃ (x : Int), ∃ (x_1 : Int), ∃ (x_2 : List ByteArray), ∃ (x_3 : List (Int × Int × Int × Int × Int)), (y.snd.fst = x ∧ (20 : Int) = x_1 ∧ L ≍ x_2 ∧ x_3 = ([] : List (Int × Int × Int × Int × Int)) ∧ True) ∧ x_2 = L ∧ (x_3, x, x_1) = asmF L)) ∧ (decide ((↑x.snd : Int) < (↑x.fst.snd.snd.length : Int)) = false → (decide ((↑(patch x.fst.snd.fst (List.take x.snd x.fst.snd.snd) x.fst.fst).length : Int) > (4096 : Int)) = true → ∃ (x : Int), ∃ (x_1 : Int), ∃ (x_2 : List ByteArray), ∃ (x_3 : List (Int × Int × Int × Int × Int)), ((0 : Int) = x ∧ (3 : Int) = x_1 ∧ L ≍ x_2 ∧ x_3 = ([] : List (Int × Int × Int × Int × Int)) ∧ True) ∧ x_2 = L ∧ (x_3, x, x_1) = asmF L) ∧ (decide ((↑(patch x.fst.snd.fst (List.take x.snd x.fst.snd.snd) x.fst.fst).length : Int) > (4096 : Int)) = false → ∃ (x_1 : Int), ∃ (x_2 : Int), ∃ (x_3 : List ByteArray), ∃ (x_4 : List (Int × Int × Int × Int × Int)), ((0 : Int) = x_1 ∧ (0 : Int) = x_2 ∧ L ≍ x_3 ∧ patch x.fst.snd.fst (List.take x.snd x.fst.snd.snd) x.fst.fst ≍ x_4 ∧ True) ∧ x_3 = L ∧ (x_4, x_1, x_2) = asmF L)))) = _) ?_
  obtain ⟨hL, hs⟩ := hp
  have hL : L.length ≤ 50000 := hL
  refine ⟨⟨(0, aZ), ⟨Nat.zero_le _, rfl, AOk.zero⟩, rfl, rfl, HEq.rfl, rfl, HEq.rfl, rfl, trivial⟩, ?_⟩
  rintro ⟨k, ⟨l, ms, us⟩⟩ hx
  have hkl : k ≤ L.length := hx.kl
  have hl : l.length ≤ k := hx.a.l
  have hu : us.length ≤ k := hx.a.u
  dsimp only
  refine ⟨fun hk => ⟨by simp only [decide_eq_true_eq] at hk; omega, by simp only [decide_eq_true_eq] at hk; omega, fun y hy => ?_⟩, fun hk => ?_⟩
  · rw [Int.toNat_natCast] at hy
    refine ⟨⟨by omega, by omega, hs y (List.mem_of_getElem? hy)⟩, fun e l' ms' us' he => ?_⟩
    obtain ⟨he, hx'⟩ := he
    refine ⟨fun h => f10a ?_, fun h => ⟨by omega, (k + 1, stepX k y (l, ms, us)), hx.next hL hy ?_, ?_, rfl, by simp, HEq.rfl, ?_⟩⟩
    · rw [hx.bad hy (by rw [← he]; simpa using h), he]
    · rw [← he]; simpa using h
    · have := (List.getElem?_eq_some_iff.1 hy).1
      dsimp only; omega
    · have := hx' (by simpa using h)
      rw [← this]
      exact ⟨HEq.rfl, HEq.rfl, HEq.rfl, trivial⟩
  have hk : L.length ≤ k := by simp only [decide_eq_false_iff_not] at hk; omega
  have hfin := hx.fin hk
  have hn : ms.length ≤ k := hx.a.n
  have hok : AOk 50000 (l, ms, us) := ⟨by dsimp only; omega, by dsimp only; omega, hx.a.m, hx.a.j, by dsimp only; omega⟩
  refine ⟨⟨((l, ms, us), 0), ⟨hfin, hok, Nat.zero_le _, rfl⟩, rfl, rfl, HEq.rfl, HEq.rfl, HEq.rfl, HEq.rfl, trivial⟩, ?_⟩
  clear hx hl hu hok hk hkl hfin hn
  rintro ⟨⟨l, ms, us⟩, k⟩ hx
  have hkl : k ≤ us.length := hx.kl
  have hf := hx.f
  have hF := asmF_end hx.r
  have hul : us.length ≤ 50000 := hx.o.u
  dsimp only at hf ⊢
  refine ⟨fun hk => ⟨by simp only [decide_eq_true_eq] at hk; omega, by simp only [decide_eq_true_eq] at hk; omega, fun y hy => ⟨fun v hv => ?_, fun hv => f10a ?_⟩⟩, fun hk => ?_⟩
  · rw [Int.toNat_natCast] at hy
    have hj := hx.o.j y (List.mem_of_getElem? hy)
    dsimp only at hj
    have hpl := patch_len ms (us.take k) l
    refine ⟨by omega, by omega, fun z hz => ⟨by omega, ((l, ms, us), k + 1), ⟨hx.r, hx.o, (List.getElem?_eq_some_iff.1 hy).1, find_go (A := (l, ms, us)) hf hy hv⟩, ?_, rfl, by simp, HEq.rfl, heq_of_eq ?_, HEq.rfl, HEq.rfl, trivial⟩⟩
    · have := (List.getElem?_eq_some_iff.1 hy).1
      dsimp only; omega
    · dsimp only
      rw [patch_succ hy, pat1, List.getD_eq_getElem?_getD, hz]
      have hv' : (fM ms y.2.2).getD 0 = v := by rw [show fM ms y.2.2 = some v from hv]; rfl
      rw [hv']
      rfl
  · rw [Int.toNat_natCast] at hy
    rw [hF, find_bad (A := (l, ms, us)) hf hy hv]
  · have hk : us.length ≤ k := by simp only [decide_eq_false_iff_not] at hk; omega
    have e := asmE_end (A := (l, ms, us)) hk hf
    dsimp only at e
    have ht : us.take k = us := List.take_of_length_le hk
    rw [ht, patch_len]
    refine ⟨fun h => f10a ?_, fun h => f10b ?_⟩
    · rw [hF, e, if_pos (by simp only [decide_eq_true_eq] at h; omega)]
    · rw [hF, e, if_neg (by simp only [decide_eq_false_iff_not] at h; omega)]
abbrev N21 : List (Nat × Spec) := (13, .full cod1.call) :: (10, .full asm1.call) :: N20
theorem N21_all : ∀ p ∈ N21, Valid Tryz.prog p.1 p.2 := vcons c13 (vcons c10 N20_all)
theorem N21_ok : ∀ f S, spL N21 f = some S → Valid Tryz.prog f S := spL_ok N21_all
end Go.Proofs.YtnbbooilapelmaaGreatDoor.V

namespace Go.Proofs.YtnbbooilapelmaaGreatDoor.V
open Go.RowKit Go.Proofs.YtnbbooilapelmaaGreatDoor
set_option linter.unusedSimpArgs false
set_option pp.deepTerms true
set_option pp.maxSteps 200000
abbrev lp7 (k p : Nat) (t : Bool) : Nat → Option LoopSp := fun r => match r with
  | 5 => some { X := Nat, sl := fun i => [(2, .one (.val (.bool t))), (7, .one (vi k)), (8, .one (vi p)), (9, .one (.sl 0)), (10, .one (vi i))], h := fun i => [(0, .own 9 .str (jL k p i))], nx := 1, inv := fun i => i ≤ k + 1, mu := fun i => k + 1 - i }
  | 19 => some { X := Nat, sl := fun i => [(7, .one (vi k)), (8, .one (vi p)), (14, .one (.sl 0)), (17, .one (vi i))], h := fun _ => [(0, .own 40 shI (List.replicate k (17, 0, 0, 0, (p : Int))))], nx := 1, inv := fun i => i ≤ k, mu := fun i => k - i }
  | _ => none
theorem labels_law : ∀ x, rngTup [pU8, pU8, pB] x → ∃ lp, runF Tbl (spL N21) lp 0 Tryz.f7 (enVs [pU8, pU8, pB] x) ⟨0, []⟩ fun r' st' => fzR st' (mkB true) r' := by
  intro ⟨(n : Int), (a : Int), (t : Bool)⟩ hr
  have hn : 0 ≤ n := hr.1.1
  have ha : 0 ≤ a := hr.2.1.1
  obtain ⟨k, hk⟩ : ∃ k : Nat, (k : Int) = 1 + n.tmod 12 := ⟨(1 + n.tmod 12).toNat, by rw [Int.tmod_eq_emod_of_nonneg hn]; omega⟩
  have hk1 : 1 ≤ k := by rw [Int.tmod_eq_emod_of_nonneg hn] at hk; omega
  have hk2 : k < 13 := by rw [Int.tmod_eq_emod_of_nonneg hn] at hk; omega
  obtain ⟨p, hp⟩ : ∃ p : Nat, (p : Int) = a.tmod (1 + n.tmod 12 + 1) := ⟨(a.tmod (1 + n.tmod 12 + 1)).toNat, by rw [← hk, Int.tmod_eq_emod_of_nonneg ha]; have := Int.emod_nonneg a (show (k : Int) + 1 ≠ 0 by omega); omega⟩
  have hpk : p ≤ k := by rw [← hk, Int.tmod_eq_emod_of_nonneg ha] at hp; have := Int.emod_lt_of_pos a (show (0 : Int) < (k : Int) + 1 by omega); omega
  refine ⟨lp7 k p t, ?_⟩
  refine Eq.mp (by kernel_rfl : ((12 : Int) ≠ (0 : Int) ∧ ((-9223372036854775808 : Int) ≤ (1 : Int) + n.tmod (12 : Int) ∧ (1 : Int) + n.tmod (12 : Int) ≤ (9223372036854775807 : Int)) ∧ ((-9223372036854775808 : Int) ≤ (1 : Int) + n.tmod (12 : Int) + (1 : Int) ∧ (1 : Int) + n.tmod (12 : Int) + (1 : Int) ≤ (9223372036854775807 : Int)) ∧ (1 : Int) + n.tmod (12 : Int) + (1 : Int) ≠ (0 : Int) ∧ (∃ (x : Nat), x ≤ k + (1 : Nat) ∧ t = t ∧ (1 : Int) + n.tmod (12 : Int) = (↑k : Int) ∧ a.tmod ((1 : Int) + n.tmod (12 : Int) + (1 : Int)) = (↑p : Int) ∧ (0 : Int) = (↑x : Int) ∧ jL k p x = ([] : List ByteArray) ∧ True) ∧ ∀ (x : Nat), x ≤ k + (1 : Nat) → (decide ((↑x : Int) ≤ (↑k : Int)) = true → (((↑x : Int) == (↑p : Int)) = true → ((jL k p x).length + (ByteArray.mk ((104 : UInt8) :: (101 : UInt8) :: (114 : UInt8) :: (101 : UInt8) :: (58 : UInt8) :: ([] : List UInt8)).toArray :: ([] : List ByteArray)).length) * (16 : Nat) ≤ (140737488355328 : Nat) ∧ (decide ((↑x : Int) < (↑k : Int)) = true → ((jL k p x ++ ByteArray.mk ((104 : UInt8) :: (101 : UInt8) :: (114 : UInt8) :: (101 : UInt8) :: (58 : UInt8) :: ([] : List UInt8)).toArray :: ([] : List ByteArray)).length + (ByteArray.mk ((106 : UInt8) :: (109 : UInt8) :: (112 : UInt8) :: (32 : UInt8) :: (104 : UInt8) :: (101 : UInt8) :: (114 : UInt8) :: (101 : UInt8) :: ([] : List UInt8)).toArray :: ([] : List ByteArray)).length) * (16 : Nat) ≤ (140737488355328 : Nat) ∧ ((-9223372036854775808 : Int) ≤ (↑x : Int) + (1 : Int) ∧ (↑x : Int) + (1 : Int) ≤ (9223372036854775807 : Int)) ∧ ∃ (y : Nat), y ≤ k + (1 : Nat) ∧ k + (1 : Nat) - y < k + (1 : Nat) - x ∧ t = t ∧ (↑k : Int) = (↑k : Int) ∧ (↑p : Int) = (↑p : Int) ∧ (↑x : Int) + (1 : Int) = (↑y : Int) ∧ jL k p x ++ ByteArray.mk ((104 : UInt8) :: (101 : UInt8) :: (114 : UInt8) :: (101 : UInt8) :: (58 : UInt8) :: ([] : List UInt8)).toArray :: ([] : List ByteArray) ++ ByteArray.mk ((106 : UInt8) :: (109 : UInt8) :: (112 : UInt8) :: (32 : UInt8) :: (104 : UInt8) :: (101 : UInt8) :: (114 : UInt8) :: (101 : UInt8) :: ([] : List UInt8)).toArray :: ([] : List ByteArray) ≍ jL k p y ∧ True) ∧ (decide ((↑x : Int) < (↑k : Int)) = false → ((-9223372036854775808 : Int) ≤ (↑x : Int) + (1 : Int) ∧ (↑x : Int) + (1 : Int) ≤ (9223372036854775807 : Int)) ∧ ∃ (y : Nat), y ≤ k + (1 : Nat) ∧ k + (1 : Nat) - y < k + (1 : Nat) - x ∧ t = t ∧ (↑k : Int) = (↑k : Int) ∧ (↑p : Int) = (↑p : Int) ∧ (↑x : Int) + (1 : Int) = (↑y : Int) ∧ jL k p x ++ ByteArray.mk ((104 : UInt8) :: (101 : UInt8) :: (114 : UInt8) :: (101 : UInt8) :: (58 : UInt8) :: ([] : List UInt8)).toArray :: ([] : List ByteArray) ≍ jL k p y ∧ True)) ∧ (((↑x : Int) == (↑p : Int)) = false → (decide ((↑x : Int) < (↑k : Int)) = true → ((jL k p x).length + (ByteArray.mk ((106 : UInt8) :: (109 : UInt8) :: (112 : UInt8) :: (32 : UInt8) :: (104 : UInt8) :: (101 : UInt8) :: (114 : UInt8) :: (101 : UInt8) :: ([] : List UInt8)).toArray :: ([] : List ByteArray)).length) * (16 : Nat) ≤ (140737488355328 : Nat) ∧ ((-9223372036854775808 : Int) ≤ (↑x : Int) + (1 : Int) ∧ (↑x : Int) + (1 : Int) ≤ (9223372036854775807 : Int)) ∧ ∃ (y : Nat), y ≤ k + (1 : Nat) ∧ k + (1 : Nat) - y < k + (1 : Nat) - x ∧ t = t ∧ (↑k : Int) = (↑k : Int) ∧ (↑p : Int) = (↑p : Int) ∧ (↑x : Int) + (1 : Int) = (↑y : Int) ∧ jL k p x ++ ByteArray.mk ((106 : UInt8) :: (109 : UInt8) :: (112 : UInt8) :: (32 : UInt8) :: (104 : UInt8) :: (101 : UInt8) :: (114 : UInt8) :: (101 : UInt8) :: ([] : List UInt8)).toArray :: ([] : List ByteArray) ≍ jL k p y ∧ True) ∧ (decide ((↑x : Int) < (↑k : Int)) = false → ((-9223372036854775808 : Int) ≤ (↑x : Int) + (1 : Int) ∧ (↑x : Int) + (1 : Int) ≤ (9223372036854775807 : Int)) ∧ ∃ (y : Nat), y ≤ k + (1 : Nat) ∧ k + (1 : Nat) - y < k + (1 : Nat) - x ∧ t = t ∧ (↑k : Int) = (↑k : Int) ∧ (↑p : Int) = (↑p : Int) ∧ (↑x : Int) + (1 : Int) = (↑y : Int) ∧ jL k p x ≍ jL k p y ∧ True))) ∧ (decide ((↑x : Int) ≤ (↑k : Int)) = false → (t = true → ((jL k p x).length + (ByteArray.mk ((104 : UInt8) :: (101 : UInt8) :: (114 : UInt8) :: (101 : UInt8) :: (58 : UInt8) :: ([] : List UInt8)).toArray :: ([] : List ByteArray)).length) * (16 : Nat) ≤ (140737488355328 : Nat) ∧ ((jL k p x ++ ByteArray.mk ((104 : UInt8) :: (101 : UInt8) :: (114 : UInt8) :: (101 : UInt8) :: (58 : UInt8) :: ([] : List UInt8)).toArray :: ([] : List ByteArray)).length ≤ (50000 : Nat) ∧ ∀ (s : ByteArray), s ∈ jL k p x ++ ByteArray.mk ((104 : UInt8) :: (101 : UInt8) :: (114 : UInt8) :: (101 : UInt8) :: (58 : UInt8) :: ([] : List UInt8)).toArray :: ([] : List ByteArray) → s.size ≤ (1000000 : Nat)) ∧ ∀ (x_1 x_2 : Int) (x_3 : List ByteArray) (x_4 : List (Int × Int × Int × Int × Int)), x_3 = jL k p x ++ ByteArray.mk ((104 : UInt8) :: (101 : UInt8) :: (114 : UInt8) :: (101 : UInt8) :: (58 : UInt8) :: ([] : List UInt8)).toArray :: ([] : List ByteArray) ∧ (x_4, x_1, x_2) = asmF (jL k p x ++ ByteArray.mk ((104 : UInt8) :: (101 : UInt8) :: (114 : UInt8) :: (101 : UInt8) :: (58 : UInt8) :: ([] : List UInt8)).toArray :: ([] : List ByteArray)) → (((↑x_4.length : Int) == (0 : Int)) = true → ((-9223372036854775808 : Int) ≤ (↑x_3.length : Int) - (1 : Int) ∧ (↑x_3.length : Int) - (1 : Int) ≤ (9223372036854775807 : Int)) ∧ ((x_1 == (↑x_3.length : Int) - (1 : Int) && x_2 == (20 : Int)) = true → true = true ∧ True) ∧ ((x_1 == (↑x_3.length : Int) - (1 : Int) && x_2 == (20 : Int)) = false → false = true ∧ True)) ∧ (((↑x_4.length : Int) == (0 : Int)) = false → false = true ∧ True)) ∧ (t = false → ((jL k p x).length ≤ (50000 : Nat) ∧ ∀ (s : ByteArray), s ∈ jL k p x → s.size ≤ (1000000 : Nat)) ∧ ∀ (x_1 x_2 : Int) (x_3 : List ByteArray) (x_4 : List (Int × Int × Int × Int × Int)), x_3 = jL k p x ∧ (x_4, x_1, x_2) = asmF (jL k p x) → ((x_2 != (0 : Int) || x_1 != (0 : Int) || (↑x_4.length : Int) != (↑k : Int)) = true → false = true ∧ True) ∧ ((x_2 != (0 : Int) || x_1 != (0 : Int) || (↑x_4.length : Int) != (↑k : Int)) = false → (∃ (x : Nat), x ≤ k ∧ (↑k : Int) = (↑k : Int) ∧ (↑p : Int) = (↑p : Int) ∧ (0 : Int) = (↑x : Int) ∧ x_4 ≍ List.replicate k ((17 : Int), (0 : Int), (0 : Int), (0 : Int), (↑p : Int)) ∧ True) ∧ ∀ (x : Nat), x ≤ k → (decide ((↑x : Int) < (↑k : Int)) = true → ((0 : Int) ≤ (↑x : Int) ∧ (↑x : Int) < (↑(List.replicate k ((17 : Int), (0 : Int), (0 : Int), (0 : Int), (↑p : Int))).length : Int)) ∧ (↑x : Int).toNat < (List.replicate k ((17 : Int), (0 : Int), (0 : Int), (0 : Int), (↑p : Int))).length ∧ ∀ (y : Int × Int × Int × Int × Int), (List.replicate k ((17 : Int), (0 : Int), (0 : Int), (0 : Int), (↑p : Int)))[(↑x : Int).toNat]? = some y → ((y.fst != (17 : Int)) = true → false = true ∧ True) ∧ ((y.fst != (17 : Int)) = false → ((0 : Int) ≤ (↑x : Int) ∧ (↑x : Int) < (↑(List.replicate k ((17 : Int), (0 : Int), (0 : Int), (0 : Int), (↑p : Int))).length : Int)) ∧ (↑x : Int).toNat < (List.replicate k ((17 : Int), (0 : Int), (0 : Int), (0 : Int), (↑p : Int))).length ∧ ∀ (y : Int × Int × Int × Int × Int), (List.replicate k ((17 : Int), (0 : Int), (0 : Int), (0 : Int), (↑p : Int)))[(↑x : Int).toNat]? = some y → ((y.snd.snd.snd.snd != (↑p : Int)) = true → false = true ∧ True) ∧ ((y.snd.snd.snd.snd != (↑p : Int)) = false → ((-9223372036854775808 : Int) ≤ (↑x : Int) + (1 : Int) ∧ (↑x : Int) + (1 : Int) ≤ (9223372036854775807 : Int)) ∧ ∃ (y : Nat), y ≤ k ∧ k - y < k - x ∧ (↑k : Int) = (↑k : Int) ∧ (↑p : Int) = (↑p : Int) ∧ (↑x : Int) + (1 : Int) = (↑y : Int) ∧ List.replicate k ((17 : Int), (0 : Int), (0 : Int), (0 : Int), (↑p : Int)) ≍ List.replicate k ((17 : Int), (0 : Int), (0 : Int), (0 : Int), (↑p : Int)) ∧ True))) ∧ (decide ((↑x : Int) < (↑k : Int)) = false → true = true ∧ True))))) = _) ?_
  have hl := @jL_len k p
  have hm := @jL_mem k p
  have hst := fun x => @jL_step k p x hpk
  have hB1 : ∀ x, ((jL k p x).length + 1) * 16 ≤ 140737488355328 ∨ ¬ x ≤ k + 1 := fun x => by
    by_cases h : x ≤ k + 1
    · have := hl (i := x); omega
    · exact .inr h
  refine ⟨by decide, by omega, by omega, by omega, ⟨0, Nat.zero_le _, rfl, hk.symm, hp.symm, rfl, ?_, trivial⟩, fun x hx => ⟨fun h1 => ?_, fun h1 => ?_⟩⟩
  · rw [jL, if_pos (Nat.zero_le _)]; rfl
  · have hxk : x ≤ k := by simp only [decide_eq_true_eq] at h1; omega
    have hs := hst x hxk
    have hln := hl (i := x)
    refine ⟨fun h2 => ?_, fun h2 => ?_⟩
    · have h2 : x = p := by have := beq_iff_eq.1 h2; omega
      rw [if_pos h2] at hs
      refine ⟨by simp only [List.length_singleton]; omega, fun h3 => ?_, fun h3 => ?_⟩
      · have h3 : x < k := by simp only [decide_eq_true_eq] at h3; omega
        rw [if_pos h3] at hs
        exact ⟨by simp only [List.length_append, List.length_singleton]; omega, by omega, x + 1, by omega, by omega, rfl, rfl, rfl, by omega, heq_of_eq hs.symm, trivial⟩
      · have h3 : ¬ x < k := by simp only [decide_eq_false_iff_not] at h3; omega
        rw [if_neg h3, List.append_nil] at hs
        exact ⟨by omega, x + 1, by omega, by omega, rfl, rfl, rfl, by omega, heq_of_eq hs.symm, trivial⟩
    · have h2 : ¬ x = p := fun e => by subst e; simp at h2
      rw [if_neg h2] at hs
      refine ⟨fun h3 => ?_, fun h3 => ?_⟩
      · have h3 : x < k := by simp only [decide_eq_true_eq] at h3; omega
        rw [if_pos h3] at hs
        exact ⟨by simp only [List.length_singleton]; omega, by omega, x + 1, by omega, by omega, rfl, rfl, rfl, by omega, heq_of_eq hs.symm, trivial⟩
      · have h3 : ¬ x < k := by simp only [decide_eq_false_iff_not] at h3; omega
        rw [if_neg h3, List.append_nil] at hs
        exact ⟨by omega, x + 1, by omega, by omega, rfl, rfl, rfl, by omega, heq_of_eq hs.symm, trivial⟩
  · have hxk : x = k + 1 := by simp only [decide_eq_false_iff_not] at h1; omega
    subst hxk
    have hf := jL_fin hpk
    have ht := asm_twice hpk
    have hj := asm_jL hpk hk2
    have hmm := hm (i := k + 1)
    have hmt : ∀ s ∈ jL k p (k + 1) ++ [hB], ByteArray.size s ≤ 1000000 := fun s hs => by
      rcases List.mem_append.1 hs with hs | hs
      · exact hmm s hs
      · rw [List.mem_singleton.1 hs]; decide
    have hft : (jL k p (k + 1) ++ [hB]).length = k + 2 := by rw [List.length_append, hf]; rfl
    refine ⟨fun _ => ⟨by simp only [List.length_singleton]; omega, ⟨?_, hmt⟩, fun a e L l hq => ?_⟩, fun _ => ⟨⟨by omega, hmm⟩, fun a e L l hq => ?_⟩⟩
    · refine Nat.le_trans (Nat.le_of_eq hft) (by omega)
    · obtain ⟨q1, q2⟩ := hq
      have q1 : L = jL k p (k + 1) ++ [hB] := q1
      have q3 : (l, a, e) = ([], ((k + 1 : Nat) : Int), 20) := q2.trans ht
      clear q2
      obtain ⟨rfl, q4⟩ := Prod.mk.inj q3
      obtain ⟨rfl, rfl⟩ := Prod.mk.inj q4
      rw [q1, hft]
      refine ⟨fun _ => ⟨by omega, fun _ => ⟨rfl, trivial⟩, fun h => ?_⟩, fun h => (by cases h)⟩
      rw [show (((k + 1 : Nat) : Int) == ((k + 2 : Nat) : Int) - 1) = true from by rw [beq_iff_eq]; omega] at h
      cases h
    · obtain ⟨q1, q2⟩ := hq
      have q3 := q2.trans hj
      clear q2
      obtain ⟨rfl, q4⟩ := Prod.mk.inj q3
      obtain ⟨rfl, rfl⟩ := Prod.mk.inj q4
      refine ⟨fun h => ?_, fun _ => ⟨⟨0, Nat.zero_le _, rfl, rfl, rfl, HEq.rfl, trivial⟩, fun x hx => ⟨fun h1 => ?_, fun _ => ⟨rfl, trivial⟩⟩⟩⟩
      · rw [List.length_replicate] at h
        simp at h
      · have h1 : x < k := by simp only [decide_eq_true_eq] at h1; omega
        rw [List.length_replicate]
        refine ⟨by omega, by omega, fun y hy => ?_⟩
        have hy2 : y = (17, 0, 0, 0, (p : Int)) := List.eq_of_mem_replicate (List.mem_of_getElem? hy)
        subst hy2
        refine ⟨fun h => absurd h (by simp), fun _ => ⟨by omega, by omega, fun z hz => ?_⟩⟩
        have hz2 : z = (17, 0, 0, 0, (p : Int)) := List.eq_of_mem_replicate (List.mem_of_getElem? hz)
        subst hz2
        exact ⟨fun h => absurd h (by simp), fun _ => ⟨by omega, x + 1, h1, by omega, rfl, rfl, by omega, HEq.rfl, trivial⟩⟩
section
variable {H : Type} {enc : TypeId × Value → H} {base : Nat} (W : World)
theorem labels_walk (hg : GlOk (fun k => k < W.heap.size) W) (v0 v1 v2 : Value) (a0 : Arg enc Tryz.prog W base 5 v0) (a1 : Arg enc Tryz.prog W base 5 v1) (a2 : Arg enc Tryz.prog W base 4 v2) : Calls Tryz.prog 7 #[v0, v1, v2] W fun e w' => e = .returned (.bool true) ∧ Below W.heap.size W w' :=
  law_of (ps := [pU8, pU8, pB]) (ts := [5, 5, 4]) (vs := [v0, v1, v2]) mixed Tbl_ok N21_ok Tryz.func7 rfl (by kernel_rfl) ⟨a0, a1, a2, trivial⟩ labels_law hg
end
end Go.Proofs.YtnbbooilapelmaaGreatDoor.V

namespace Go.Proofs.YtnbbooilapelmaaGreatDoor.V
open Go.RowKit Go.Proofs.YtnbbooilapelmaaGreatDoor
set_option linter.unusedSimpArgs false
set_option pp.deepTerms true
set_option pp.maxSteps 200000
abbrev lp6 (n : Int) : Nat → Option LoopSp := fun _ => some { X := Nat, sl := fun i => [(0, .one (.val (.int .u8 n))), (3, .one (.sl 0)), (4, .one (.sl 1)), (5, .one (vi i))], h := fun i => [(0, .own 40 shI (List.replicate i zI)), (1, .own 9 .str (List.replicate i l6))], nx := 2, inv := fun i => i ≤ 4096, mu := fun i => 4096 - i }
theorem ln0 : lnB zI = l6 := by
  have hh : (hasS 0).data.toList = [] := by decide
  have e : lineWs zI = [nmF 0] := by rw [lineWs, hh]; rfl
  rw [lnB, e, join1]; rfl
abbrev hI : IN := (22, 0, 0, 0, 0)
theorem ln5 : lnB hI = l5 := by
  have hh : (hasS 22).data.toList = [] := by decide
  have e : lineWs hI = [nmF 22] := by rw [lineWs, hh]; rfl
  rw [lnB, e, join1]; rfl
theorem map_rep (m : Nat) : List.replicate m l6 = (List.replicate m zI).map lnB := by rw [List.map_replicate, ln0]
theorem good_z : goodF zI = true := by decide
theorem good_h : goodF hI = true := by decide
theorem good_t : ∀ a < 8, goodF (21, ((a : Nat) : Int), 0, 0, 0) = true := by decide
theorem rep_good (m : Nat) : ∀ x ∈ List.replicate m zI, goodF x = true := fun x hx => by rw [List.eq_of_mem_replicate hx]; exact good_z
theorem asm_big {G : List IN} (h : ∀ x ∈ G, goodF x = true) (hl : 4096 < G.length) : asmF (G.map lnB) = ([], 0, 3) := by
  have hr := run_lns G 0 [] [] [] h
  rw [List.append_nil, runA, List.nil_append] at hr
  rw [asmF_end hr]
  show (if G.length > 4096 then (([] : List IN), (0 : Int), (3 : Int)) else _) = _
  rw [if_pos hl]
theorem many_asm : asmF (List.replicate 4096 l6) = (List.replicate 4096 zI, 0, 0) := by
  rw [map_rep]
  exact asm_lns (rep_good _) (by rw [List.length_replicate]; exact Nat.le_refl _)
theorem many_asm1 : asmF (List.replicate 4096 l6 ++ [l5]) = ([], 0, 3) := by
  have e : List.replicate 4096 l6 ++ [l5] = (List.replicate 4096 zI ++ [hI]).map lnB := by rw [map_rep, List.map_append, List.map_singleton, ln5]
  rw [e]
  refine asm_big (fun x hx => ?_) (by rw [List.length_append, List.length_replicate, List.length_singleton]; exact Nat.lt_succ_self _)
  rcases List.mem_append.1 hx with hx | hx
  · exact rep_good _ x hx
  · rw [List.mem_singleton.1 hx]; exact good_h
theorem cod_ok {l : List IN} (h : ∀ x ∈ l, goodF x = true) (hl : l.length ≤ 4096) : codeF l = (l.map encW, 0) := by
  rw [codeF, List.all_eq_true.2 h, decide_eq_true hl]
theorem cod_big {l : List IN} (h : ∀ x ∈ l, goodF x = true) (hl : ¬ l.length ≤ 4096) : codeF l = ([], 3) := by
  rw [codeF, List.all_eq_true.2 h, decide_eq_false hl]
theorem l6_size : ByteArray.size l6 ≤ 1000000 := by decide
theorem l5_size : ByteArray.size l5 ≤ 1000000 := by decide
theorem many_law : ∀ x, rngTup [pU8] x → ∃ lp, runF Tbl (spL N21) lp 0 Tryz.f6 (enVs [pU8] x) ⟨0, []⟩ fun r' st' => fzR st' (mkB true) r' := by
  intro (n : Int) hr
  refine ⟨lp6 n, ?_⟩
  refine Eq.mp (by kernel_rfl : ((∃ (x : Nat), x ≤ (4096 : Nat) ∧ n = n ∧ (0 : Int) = (↑x : Int) ∧ List.replicate x zI = ([] : List (Int × Int × Int × Int × Int)) ∧ List.replicate x l6 = ([] : List ByteArray) ∧ True) ∧ ∀ (x : Nat), x ≤ (4096 : Nat) → (decide ((↑x : Int) < (4096 : Int)) = true → ((List.replicate x zI).length + (((0 : Int), (0 : Int), (0 : Int), (0 : Int), (0 : Int)) :: ([] : List (Int × Int × Int × Int × Int))).length) * (40 : Nat) ≤ (140737488355328 : Nat) ∧ ((List.replicate x l6).length + (ByteArray.mk ((110 : UInt8) :: (111 : UInt8) :: (112 : UInt8) :: ([] : List UInt8)).toArray :: ([] : List ByteArray)).length) * (16 : Nat) ≤ (140737488355328 : Nat) ∧ ((-9223372036854775808 : Int) ≤ (↑x : Int) + (1 : Int) ∧ (↑x : Int) + (1 : Int) ≤ (9223372036854775807 : Int)) ∧ ∃ (y : Nat), y ≤ (4096 : Nat) ∧ (4096 : Nat) - y < (4096 : Nat) - x ∧ n = n ∧ (↑x : Int) + (1 : Int) = (↑y : Int) ∧ List.replicate x zI ++ ((0 : Int), (0 : Int), (0 : Int), (0 : Int), (0 : Int)) :: ([] : List (Int × Int × Int × Int × Int)) ≍ List.replicate y zI ∧ List.replicate x l6 ++ ByteArray.mk ((110 : UInt8) :: (111 : UInt8) :: (112 : UInt8) :: ([] : List UInt8)).toArray :: ([] : List ByteArray) ≍ List.replicate y l6 ∧ True) ∧ (decide ((↑x : Int) < (4096 : Int)) = false → (List.replicate x zI).length ≤ (1000000 : Nat) ∧ ∀ (x_1 : Int) (x_2 : List (Int × Int × Int × Int × Int)) (x_3 : List Int), x_2 = List.replicate x zI ∧ (x_3, x_1) = codeF (List.replicate x zI) → ((List.replicate x l6).length ≤ (50000 : Nat) ∧ ∀ (s : ByteArray), s ∈ List.replicate x l6 → s.size ≤ (1000000 : Nat)) ∧ ∀ (x_4 x_5 : Int) (x_6 : List ByteArray) (x_7 : List (Int × Int × Int × Int × Int)), x_6 = List.replicate x l6 ∧ (x_7, x_4, x_5) = asmF (List.replicate x l6) → (8 : Int) ≠ (0 : Int) ∧ (x_2.length + (((21 : Int), n.tmod (8 : Int), (0 : Int), (0 : Int), (0 : Int)) :: ([] : List (Int × Int × Int × Int × Int))).length) * (40 : Nat) ≤ (140737488355328 : Nat) ∧ (x_2 ++ ((21 : Int), n.tmod (8 : Int), (0 : Int), (0 : Int), (0 : Int)) :: ([] : List (Int × Int × Int × Int × Int))).length ≤ (1000000 : Nat) ∧ ∀ (x : Int) (x_8 : List (Int × Int × Int × Int × Int)) (x_9 : List Int), x_8 = x_2 ++ ((21 : Int), n.tmod (8 : Int), (0 : Int), (0 : Int), (0 : Int)) :: ([] : List (Int × Int × Int × Int × Int)) ∧ (x_9, x) = codeF (x_2 ++ ((21 : Int), n.tmod (8 : Int), (0 : Int), (0 : Int), (0 : Int)) :: ([] : List (Int × Int × Int × Int × Int))) → (x_6.length + (ByteArray.mk ((104 : UInt8) :: (97 : UInt8) :: (108 : UInt8) :: (116 : UInt8) :: ([] : List UInt8)).toArray :: ([] : List ByteArray)).length) * (16 : Nat) ≤ (140737488355328 : Nat) ∧ ((x_6 ++ ByteArray.mk ((104 : UInt8) :: (97 : UInt8) :: (108 : UInt8) :: (116 : UInt8) :: ([] : List UInt8)).toArray :: ([] : List ByteArray)).length ≤ (50000 : Nat) ∧ ∀ (s : ByteArray), s ∈ x_6 ++ ByteArray.mk ((104 : UInt8) :: (97 : UInt8) :: (108 : UInt8) :: (116 : UInt8) :: ([] : List UInt8)).toArray :: ([] : List ByteArray) → s.size ≤ (1000000 : Nat)) ∧ ∀ (x_10 x_11 : Int) (x_12 : List ByteArray) (x_13 : List (Int × Int × Int × Int × Int)), x_12 = x_6 ++ ByteArray.mk ((104 : UInt8) :: (97 : UInt8) :: (108 : UInt8) :: (116 : UInt8) :: ([] : List UInt8)).toArray :: ([] : List ByteArray) ∧ (x_13, x_10, x_11) = asmF (x_6 ++ ByteArray.mk ((104 : UInt8) :: (97 : UInt8) :: (108 : UInt8) :: (116 : UInt8) :: ([] : List UInt8)).toArray :: ([] : List ByteArray)) → ((x_1 == (0 : Int) && x_5 == (0 : Int) && (↑x_3.length : Int) == (4096 : Int) && (↑x_7.length : Int) == (4096 : Int) && x == (3 : Int) && x_11 == (3 : Int) && x_10 == (0 : Int)) = true → true = true ∧ True) ∧ ((x_1 == (0 : Int) && x_5 == (0 : Int) && (↑x_3.length : Int) == (4096 : Int) && (↑x_7.length : Int) == (4096 : Int) && x == (3 : Int) && x_11 == (3 : Int) && x_10 == (0 : Int)) = false → false = true ∧ True))) = _) ?_
  have hn : 0 ≤ n := hr.1
  refine ⟨⟨0, Nat.zero_le _, rfl, rfl, rfl, rfl, trivial⟩, fun x hx => ⟨fun h1 => ?_, fun h1 => ?_⟩⟩
  · have h1 : x < 4096 := by simp only [decide_eq_true_eq] at h1; omega
    refine ⟨by rw [List.length_replicate]; simp only [List.length_singleton]; omega, by rw [List.length_replicate]; simp only [List.length_singleton]; omega, by omega, x + 1, h1, by omega, rfl, by omega, heq_of_eq ?_, heq_of_eq ?_, trivial⟩
    · exact List.replicate_succ'.symm
    · exact List.replicate_succ'.symm
  · have h1 : x = 4096 := by simp only [decide_eq_false_iff_not] at h1; omega
    have hr1 : (List.replicate x zI).length = 4096 := by rw [List.length_replicate, h1]
    have hr2 : (List.replicate x l6).length = 4096 := by rw [List.length_replicate, h1]
    have e1 := many_asm; have e2 := many_asm1
    rw [← h1] at e1 e2
    have e3 := cod_ok (rep_good x) (by omega)
    refine ⟨by omega, fun e q1 c hq => ?_⟩
    obtain ⟨rfl, hq⟩ := hq
    obtain ⟨rfl, rfl⟩ := Prod.mk.inj (hq.trans e3)
    refine ⟨⟨by omega, fun s hs => by rw [List.eq_of_mem_replicate hs]; exact l6_size⟩, fun a f q2 l hq => ?_⟩
    obtain ⟨rfl, hq⟩ := hq
    have hq1 := hq.trans e1
    clear hq
    obtain ⟨rfl, hq2⟩ := Prod.mk.inj hq1
    obtain ⟨rfl, rfl⟩ := Prod.mk.inj hq2
    have hg : ∀ y ∈ List.replicate x zI ++ [((21, n.tmod 8, 0, 0, 0) : IN)], goodF y = true := fun y hy => by
      rcases List.mem_append.1 hy with hy | hy
      · exact rep_good _ y hy
      · rw [List.mem_singleton.1 hy]
        have h8 : n.tmod 8 = ((n.tmod 8).toNat : Int) := by rw [Int.tmod_eq_emod_of_nonneg hn]; omega
        rw [h8]
        exact good_t _ (by rw [Int.tmod_eq_emod_of_nonneg hn]; omega)
    have hl : (List.replicate x zI ++ [((21, n.tmod 8, 0, 0, 0) : IN)]).length = 4097 := by rw [List.length_append, hr1]; rfl
    have e4 := cod_big hg (by omega)
    refine ⟨by decide, by simp only [List.length_singleton]; omega, by refine Nat.le_trans (Nat.le_of_eq hl) (by omega), fun g q3 c2 hq => ?_⟩
    obtain ⟨q3, hq⟩ := hq
    obtain ⟨rfl, rfl⟩ := Prod.mk.inj (hq.trans e4)
    refine ⟨by simp only [List.length_singleton]; omega, ⟨by rw [List.length_append, hr2]; simp only [List.length_singleton]; omega, fun s hs => ?_⟩, fun a2 h2 q4 l2 hq => ?_⟩
    · rcases List.mem_append.1 hs with hs | hs
      · rw [List.eq_of_mem_replicate hs]; exact l6_size
      · rw [List.mem_singleton.1 hs]; exact l5_size
    obtain ⟨q4, hq⟩ := hq
    have hq1 := hq.trans e2
    clear hq
    obtain ⟨rfl, hq2⟩ := Prod.mk.inj hq1
    obtain ⟨rfl, rfl⟩ := Prod.mk.inj hq2
    refine ⟨fun _ => ⟨rfl, trivial⟩, fun h => ?_⟩
    rw [List.length_map, hr1] at h
    exact absurd h (by decide)
section
variable {H : Type} {enc : TypeId × Value → H} {base : Nat} (W : World)
theorem many_walk (hg : GlOk (fun k => k < W.heap.size) W) (v0 : Value) (a0 : Arg enc Tryz.prog W base 5 v0) : Calls Tryz.prog 6 #[v0] W fun e w' => e = .returned (.bool true) ∧ Below W.heap.size W w' :=
  law_of (ps := [pU8]) (ts := [5]) (vs := [v0]) mixed Tbl_ok N21_ok Tryz.func6 rfl (by kernel_rfl) ⟨a0, trivial⟩ many_law hg
end
end Go.Proofs.YtnbbooilapelmaaGreatDoor.V
