import Derived.KernelRfl
import Derived.Test.YtnbbooilapelmaaGreatDoorM1
namespace Go.Proofs.YtnbbooilapelmaaGreatDoor.V
open Go.RowKit Go.Proofs.YtnbbooilapelmaaGreatDoor
set_option linter.unusedSimpArgs false
set_option pp.deepTerms true
set_option pp.maxSteps 200000
abbrev PN := IN × ByteArray
def fldR (num : ByteArray → Option Int) (op : Int) (c : UInt8) (w : ByteArray) : PN → Option PN
  | ((o, a, b, d, m), t) => if c = 65 then (regW w).map fun n => ((o, n, b, d, m), t) else if c = 66 then (regW w).map fun n => ((o, a, n, d, m), t) else if c = 67 then (regW w).map fun n => ((o, a, b, n, m), t)
    else (match num w with | some n => some ((o, a, b, d, n), t) | none => if (jmpF op && labF w) = true then some ((o, a, b, d, 0), w) else none)
def goI (num : ByteArray → Option Int) (op : Int) : List UInt8 → List ByteArray → PN → Option PN
  | [], [], x => some x
  | c :: cs, w :: ws, x => (fldR num op c w x).bind (goI num op cs ws)
  | _, _, _ => none
abbrev e0 : ByteArray := ⟨#[]⟩
def insW (num : ByteArray → Option Int) : List ByteArray → Option PN
  | [] => none
  | w :: r => if 0 ≤ idxI w nmL ∧ r.length = (hasS (idxI w nmL)).size then (goI num (idxI w nmL) (hasS (idxI w nmL)).data.toList r ((idxI w nmL, 0, 0, 0, 0), e0)).bind fun x => if goodF x.1 = true then some x else none else none
def numP (w : ByteArray) : Option Int := if (numB w).2 = true then some (numB w).1 else none
def numQ (w : ByteArray) : Option Int := if (numR w).2 = true then some (numR w).1 else none
abbrev shUse : Sh := .pair (.int .i64) (.pair (.int .i64) .str)
abbrev UN := Int × Int × ByteArray
def lbl (n line : Int) (t : ByteArray) : List UN := if t = e0 then [] else [(n, line, t)]
abbrev Iy : PC := .d (.int .i64)
abbrev bR : List (Nat × PR) := [(0, .blk [.s 1, .m 2, .s 3] 53), (1, .own 40 shI), (2, .mp .str (.int .i64)), (3, .own 56 shUse)]
def ins1 : PT where
  ps := [.one (.p 0 0), .one Iy, .one (.d (.sl .str))]
  rg := bR
  na := 4
  rs := [.one (.d .bool)]
  out := [(0, .blk [.s 4, .m 2, .s 5] 53), (4, .own 40 shI), (2, .mp .str (.int .i64)), (5, .own 56 shUse)]
  nx := 6
  pre := fun (line, W, l, ms, us, _) => W ≠ [] ∧ l.length ≤ 100000 ∧ us.length ≤ 100000 ∧ ∀ w ∈ W, ByteArray.size w ≤ 1000000
  post := fun (line, W, l, ms, us, _) (ok, l', ms', us', _) => ok = (insW numP W).isSome ∧ ms' = ms ∧ ∀ i t, insW numP W = some (i, t) → l' = l ++ [i] ∧ us' = us ++ lbl l.length line t
structure I39 (op : Int) (cs : List UInt8) (ws : List ByteArray) (k : Nat) (x : PN) : Prop where
  kl : k ≤ cs.length
  e : goI numP op cs ws ((op, 0, 0, 0, 0), e0) = goI numP op (cs.drop k) (ws.drop k) x
  n : k < cs.length → x.2 = e0 ∧ x.1.2.2.2.2 = 0
abbrev cV : IN → List CV := fun (o, a, b, d, m) => [vi o, vi a, vi b, vi d, vi m]
abbrev lp39 (line : Int) (W : List ByteArray) (l : List IN) (ms : List MN) (us : List UN) (op : Int) : Nat → Option LoopSp := fun r => match r with
  | 8 => some { X := Nat × PN, sl := fun x => [(0, .one (.ptr 0 0)), (1, .one (vi line)), (2, .one (.rd .str W)), (8, .one (vi op)), (10, .one (.ptr 4 0)), (37, .one (.ptr 5 0))], h := fun x => [(0, .blk [.sl 1, .mv 2, .sl 6] 53), (1, .own 40 shI l), (2, .mp .str (.int .i64) ms), (6, .own 56 shUse (us ++ lbl l.length line x.2.2)), (4, .blk [vi x.2.1.1, vi x.2.1.2.1, vi x.2.1.2.2.1, vi x.2.1.2.2.2.1, vi x.2.1.2.2.2.2] 40), (5, .it (hasS op) x.1)], nx := 7, inv := fun x => I39 op (hasS op).data.toList W.tail x.1 x.2, mu := fun x => (hasS op).size - x.1 }
  | _ => none
theorem nmL_eq : nmL = [⟨#[110, 111, 112]⟩, ⟨#[108, 105]⟩, ⟨#[97, 100, 100]⟩, ⟨#[115, 117, 98]⟩, ⟨#[97, 110, 100]⟩, ⟨#[120, 111, 114]⟩, ⟨#[115, 104, 108]⟩, ⟨#[115, 104, 114]⟩, ⟨#[108, 100]⟩, ⟨#[115, 116]⟩, ⟨#[99, 97, 115]⟩, ⟨#[120, 97, 100, 100]⟩, ⟨#[99, 108, 119, 98]⟩, ⟨#[111, 112, 116]⟩, ⟨#[102, 108, 117, 115, 104]⟩, ⟨#[115, 102, 101, 110, 99, 101]⟩, ⟨#[109, 102, 101, 110, 99, 101]⟩, ⟨#[106, 109, 112]⟩, ⟨#[98, 101, 113]⟩, ⟨#[98, 110, 101]⟩, ⟨#[98, 108, 116]⟩, ⟨#[116, 101, 108, 108]⟩, ⟨#[104, 97, 108, 116]⟩] := rfl
theorem lbl_nil (n line : Int) : lbl n line e0 = [] := if_pos rfl
theorem lab_ne {w : ByteArray} (h : labF w = true) : w ≠ e0 := by
  rintro rfl
  revert h; decide
theorem lbl_one {n line : Int} {w : ByteArray} (h : labF w = true) : lbl n line w = [(n, line, w)] := if_neg (lab_ne h)
theorem has_last {op : Int} {k : Nat} (h : (hasS op).data.toList[k]? = some 73) : k + 1 = (hasS op).data.toList.length := by
  have key : ∀ s ∈ hasC, ∀ k < 3, (ByteArray.data s).toList[k]? = some 73 → k + 1 = (ByteArray.data s).toList.length := by decide
  have := (List.getElem?_eq_some_iff.1 h).1
  have h3 := has_size op
  rw [size_list] at this
  exact key _ (has_is op) k (by omega) h
theorem goI_step {num : ByteArray → Option Int} {op : Int} {cs : List UInt8} {ws : List ByteArray} {k : Nat} {c : UInt8} {w : ByteArray} {x : PN} (hc : cs[k]? = some c) (hw : ws[k]? = some w) :
    goI num op (cs.drop k) (ws.drop k) x = (fldR num op c w x).bind (goI num op (cs.drop (k + 1)) (ws.drop (k + 1))) := by
  have h1 := (List.getElem?_eq_some_iff.1 hc).1
  have h2 := (List.getElem?_eq_some_iff.1 hw).1
  rw [List.drop_eq_getElem_cons h1, List.drop_eq_getElem_cons h2]
  rw [List.getElem?_eq_getElem h1] at hc
  rw [List.getElem?_eq_getElem h2] at hw
  rw [Option.some.inj hc, Option.some.inj hw, goI]
theorem goI_end {num : ByteArray → Option Int} {op : Int} {cs : List UInt8} {ws : List ByteArray} {k : Nat} {x : PN} (hl : ws.length = cs.length) (hk : cs.length ≤ k) : goI num op (cs.drop k) (ws.drop k) x = some x := by
  rw [List.drop_eq_nil_iff.2 hk, List.drop_eq_nil_iff.2 (by omega), goI]
theorem insW_len {num : ByteArray → Option Int} {w : ByteArray} {r : List ByteArray} (h : ¬ (0 ≤ idxI w nmL ∧ r.length = (hasS (idxI w nmL)).size)) : insW num (w :: r) = none := by rw [insW, if_neg h]
theorem insW_go {num : ByteArray → Option Int} {w : ByteArray} {r : List ByteArray} (h : 0 ≤ idxI w nmL ∧ r.length = (hasS (idxI w nmL)).size) :
    insW num (w :: r) = (goI num (idxI w nmL) (hasS (idxI w nmL)).data.toList r ((idxI w nmL, 0, 0, 0, 0), e0)).bind fun x => if goodF x.1 = true then some x else none := by rw [insW, if_pos h]
theorem fail39 {l : List IN} {ms : List MN} {us : List UN} {line : Int} {W : List ByteArray} (h : insW numP W = none) {vs : List UN} :
    ∃ (x : Bool) (x_1 : List IN) (x_2 : List MN) (x_3 : List UN), (false = x ∧ HEq l x_1 ∧ HEq ms x_2 ∧ HEq vs x_3 ∧ True) ∧ x = (insW numP W).isSome ∧ x_2 = ms ∧ ∀ (i : IN) (t : ByteArray), insW numP W = some (i, t) → x_1 = l ++ [i] ∧ x_3 = us ++ lbl l.length line t :=
  ⟨_, _, _, _, ⟨rfl, HEq.rfl, HEq.rfl, HEq.rfl, trivial⟩, by rw [h]; rfl, rfl, fun i t e => by rw [h] at e; cases e⟩
theorem regR_no {w : ByteArray} (h : (!(regR (regW w)).2) = true) : regW w = none := by
  cases e : regW w with
  | none => rfl
  | some n => rw [e] at h; cases h
theorem regR_yes {w : ByteArray} (h : (!(regR (regW w)).2) = false) : regW w = some (regR (regW w)).1 := by
  cases e : regW w with
  | none => rw [e] at h; cases h
  | some n => rfl
theorem fld65 {num : ByteArray → Option Int} {op o a b d m : Int} {w t : ByteArray} : fldR num op 65 w ((o, a, b, d, m), t) = (regW w).map fun n => ((o, n, b, d, m), t) := by rw [fldR, if_pos rfl]
theorem fld66 {num : ByteArray → Option Int} {op o a b d m : Int} {w t : ByteArray} : fldR num op 66 w ((o, a, b, d, m), t) = (regW w).map fun n => ((o, a, n, d, m), t) := by rw [fldR, if_neg (by decide), if_pos rfl]
theorem fld67 {num : ByteArray → Option Int} {op o a b d m : Int} {w t : ByteArray} : fldR num op 67 w ((o, a, b, d, m), t) = (regW w).map fun n => ((o, a, b, n, m), t) := by rw [fldR, if_neg (by decide), if_neg (by decide), if_pos rfl]
theorem fld73 {num : ByteArray → Option Int} {op o a b d m : Int} {w t : ByteArray} : fldR num op 73 w ((o, a, b, d, m), t) = (match num w with | some n => some ((o, a, b, d, n), t) | none => if (jmpF op && labF w) = true then some ((o, a, b, d, 0), w) else none) := by rw [fldR, if_neg (by decide), if_neg (by decide), if_neg (by decide)]
theorem v39 : Valid Tryz.prog 39 (.full ins1.call) := by
  refine valid_P mixed Tbl_ok N13_ok Tryz.func39 call39 ?_
  intro (line : Int) (W : List ByteArray) (l : List IN) (ms : List MN) (us : List UN) hp hr hh
  obtain ⟨hW, hl, hu, hsz⟩ := hp
  obtain ⟨w0, r0, rfl⟩ : ∃ w r, W = w :: r := by
    cases W with
    | nil => exact absurd rfl hW
    | cons w r => exact ⟨w, r, rfl⟩
  refine ⟨lp39 line (w0 :: r0) l ms us (idxI w0 nmL), ?_⟩
  refine Eq.mp (by kernel_rfl : (((0 : Int) ≤ (0 : Int) ∧ (0 : Int) < (↑(w0 :: r0).length : Int)) ∧ ∀ (y : ByteArray), (w0 :: r0)[Int.toNat (0 : Int)]? = some y → (decide (idxI y (ByteArray.mk ((110 : UInt8) :: (111 : UInt8) :: (112 : UInt8) :: ([] : List UInt8)).toArray :: ByteArray.mk ((108 : UInt8) :: (105 : UInt8) :: ([] : List UInt8)).toArray :: ByteArray.mk ((97 : UInt8) :: (100 : UInt8) :: (100 : UInt8) :: ([] : List UInt8)).toArray :: ByteArray.mk ((115 : UInt8) :: (117 : UInt8) :: (98 : UInt8) :: ([] : List UInt8)).toArray :: ByteArray.mk ((97 : UInt8) :: (110 : UInt8) :: (100 : UInt8) :: ([] : List UInt8)).toArray :: ByteArray.mk ((120 : UInt8) :: (111 : UInt8) :: (114 : UInt8) :: ([] : List UInt8)).toArray :: ByteArray.mk ((115 : UInt8) :: (104 : UInt8) :: (108 : UInt8) :: ([] : List UInt8)).toArray :: ByteArray.mk ((115 : UInt8) :: (104 : UInt8) :: (114 : UInt8) :: ([] : List UInt8)).toArray :: ByteArray.mk ((108 : UInt8) :: (100 : UInt8) :: ([] : List UInt8)).toArray :: ByteArray.mk ((115 : UInt8) :: (116 : UInt8) :: ([] : List UInt8)).toArray :: ByteArray.mk ((99 : UInt8) :: (97 : UInt8) :: (115 : UInt8) :: ([] : List UInt8)).toArray :: ByteArray.mk ((120 : UInt8) :: (97 : UInt8) :: (100 : UInt8) :: (100 : UInt8) :: ([] : List UInt8)).toArray :: ByteArray.mk ((99 : UInt8) :: (108 : UInt8) :: (119 : UInt8) :: (98 : UInt8) :: ([] : List UInt8)).toArray :: ByteArray.mk ((111 : UInt8) :: (112 : UInt8) :: (116 : UInt8) :: ([] : List UInt8)).toArray :: ByteArray.mk ((102 : UInt8) :: (108 : UInt8) :: (117 : UInt8) :: (115 : UInt8) :: (104 : UInt8) :: ([] : List UInt8)).toArray :: ByteArray.mk ((115 : UInt8) :: (102 : UInt8) :: (101 : UInt8) :: (110 : UInt8) :: (99 : UInt8) :: (101 : UInt8) :: ([] : List UInt8)).toArray :: ByteArray.mk ((109 : UInt8) :: (102 : UInt8) :: (101 : UInt8) :: (110 : UInt8) :: (99 : UInt8) :: (101 : UInt8) :: ([] : List UInt8)).toArray :: ByteArray.mk ((106 : UInt8) :: (109 : UInt8) :: (112 : UInt8) :: ([] : List UInt8)).toArray :: ByteArray.mk ((98 : UInt8) :: (101 : UInt8) :: (113 : UInt8) :: ([] : List UInt8)).toArray :: ByteArray.mk ((98 : UInt8) :: (110 : UInt8) :: (101 : UInt8) :: ([] : List UInt8)).toArray :: ByteArray.mk ((98 : UInt8) :: (108 : UInt8) :: (116 : UInt8) :: ([] : List UInt8)).toArray :: ByteArray.mk ((116 : UInt8) :: (101 : UInt8) :: (108 : UInt8) :: (108 : UInt8) :: ([] : List UInt8)).toArray :: ByteArray.mk ((104 : UInt8) :: (97 : UInt8) :: (108 : UInt8) :: (116 : UInt8) :: ([] : List UInt8)).toArray :: ([] : List ByteArray)) < (0 : Int)) = true → ∃ (x : Bool), ∃ (x_1 : List (Int × Int × Int × Int × Int)), ∃ (x_2 : List (ByteArray × Int)), ∃ (x_3 : List (Int × Int × ByteArray)), (false = x ∧ l ≍ x_1 ∧ ms ≍ x_2 ∧ us ≍ x_3 ∧ True) ∧ x = (insW numP (w0 :: r0)).isSome ∧ x_2 = ms ∧ ∀ (i : IN) (t : ByteArray), insW numP (w0 :: r0) = some (i, t) → x_1 = l ++ i :: ([] : List IN) ∧ x_3 = us ++ lbl (↑l.length : Int) line t) ∧ (decide (idxI y (ByteArray.mk ((110 : UInt8) :: (111 : UInt8) :: (112 : UInt8) :: ([] : List UInt8)).toArray :: ByteArray.mk ((108 : UInt8) :: (105 : UInt8) :: ([] : List UInt8)).toArray :: ByteArray.mk ((97 : UInt8) :: (100 : UInt8) :: (100 : UInt8) :: ([] : List UInt8)).toArray :: ByteArray.mk ((115 : UInt8) :: (117 : UInt8) :: (98 : UInt8) :: ([] : List UInt8)).toArray :: ByteArray.mk ((97 : UInt8) :: (110 : UInt8) :: (100 : UInt8) :: ([] : List UInt8)).toArray :: ByteArray.mk ((120 : UInt8) :: (111 : UInt8) :: (114 : UInt8) :: ([] : List UInt8)).toArray :: ByteArray.mk ((115 : UInt8) :: (104 : UInt8) :: (108 : UInt8) :: ([] : List UInt8)).toArray :: ByteArray.mk ((115 : UInt8) :: (104 : UInt8) :: (114 : UInt8) :: ([] : List UInt8)).toArray :: ByteArray.mk ((108 : UInt8) :: (100 : UInt8) :: ([] : List UInt8)).toArray :: ByteArray.mk ((115 : UInt8) :: (116 : UInt8) :: ([] : List UInt8)).toArray :: ByteArray.mk ((99 : UInt8) :: (97 : UInt8) :: (115 : UInt8) :: ([] : List UInt8)).toArray :: ByteArray.mk ((120 : UInt8) :: (97 : UInt8) :: (100 : UInt8) :: (100 : UInt8) :: ([] : List UInt8)).toArray :: ByteArray.mk ((99 : UInt8) :: (108 : UInt8) :: (119 : UInt8) :: (98 : UInt8) :: ([] : List UInt8)).toArray :: ByteArray.mk ((111 : UInt8) :: (112 : UInt8) :: (116 : UInt8) :: ([] : List UInt8)).toArray :: ByteArray.mk ((102 : UInt8) :: (108 : UInt8) :: (117 : UInt8) :: (115 : UInt8) :: (104 : UInt8) :: ([] : List UInt8)).toArray :: ByteArray.mk ((115 : UInt8) :: (102 : UInt8) :: (101 : UInt8) :: (110 : UInt8) :: (99 : UInt8) :: (101 : UInt8) :: ([] : List UInt8)).toArray :: ByteArray.mk ((109 : UInt8) :: (102 : UInt8) :: (101 : UInt8) :: (110 : UInt8) :: (99 : UInt8) :: (101 : UInt8) :: ([] : List UInt8)).toArray :: ByteArray.mk ((106 : UInt8) :: (109 : UInt8) :: (112 : UInt8) :: ([] : List UInt8)).toArray :: ByteArray.mk ((98 : UInt8) :: (101 : UInt8) :: (113 : UInt8) :: ([] : List UInt8)).toArray :: ByteArray.mk ((98 : UInt8) :: (110 : UInt8) :: (101 : UInt8) :: ([] : List UInt8)).toArray :: ByteArray.mk ((98 : UInt8) :: (108 : UInt8) :: (116 : UInt8) :: ([] : List UInt8)).toArray :: ByteArray.mk ((116 : UInt8) :: (101 : UInt8) :: (108 : UInt8) :: (108 : UInt8) :: ([] : List UInt8)).toArray :: ByteArray.mk ((104 : UInt8) :: (97 : UInt8) :: (108 : UInt8) :: (116 : UInt8) :: ([] : List UInt8)).toArray :: ([] : List ByteArray)) < (0 : Int)) = false → ((-9223372036854775808 : Int) ≤ (↑(hasS (idxI y (ByteArray.mk ((110 : UInt8) :: (111 : UInt8) :: (112 : UInt8) :: ([] : List UInt8)).toArray :: ByteArray.mk ((108 : UInt8) :: (105 : UInt8) :: ([] : List UInt8)).toArray :: ByteArray.mk ((97 : UInt8) :: (100 : UInt8) :: (100 : UInt8) :: ([] : List UInt8)).toArray :: ByteArray.mk ((115 : UInt8) :: (117 : UInt8) :: (98 : UInt8) :: ([] : List UInt8)).toArray :: ByteArray.mk ((97 : UInt8) :: (110 : UInt8) :: (100 : UInt8) :: ([] : List UInt8)).toArray :: ByteArray.mk ((120 : UInt8) :: (111 : UInt8) :: (114 : UInt8) :: ([] : List UInt8)).toArray :: ByteArray.mk ((115 : UInt8) :: (104 : UInt8) :: (108 : UInt8) :: ([] : List UInt8)).toArray :: ByteArray.mk ((115 : UInt8) :: (104 : UInt8) :: (114 : UInt8) :: ([] : List UInt8)).toArray :: ByteArray.mk ((108 : UInt8) :: (100 : UInt8) :: ([] : List UInt8)).toArray :: ByteArray.mk ((115 : UInt8) :: (116 : UInt8) :: ([] : List UInt8)).toArray :: ByteArray.mk ((99 : UInt8) :: (97 : UInt8) :: (115 : UInt8) :: ([] : List UInt8)).toArray :: ByteArray.mk ((120 : UInt8) :: (97 : UInt8) :: (100 : UInt8) :: (100 : UInt8) :: ([] : List UInt8)).toArray :: ByteArray.mk ((99 : UInt8) :: (108 : UInt8) :: (119 : UInt8) :: (98 : UInt8) :: ([] : List UInt8)).toArray :: ByteArray.mk ((111 : UInt8) :: (112 : UInt8) :: (116 : UInt8) :: ([] : List UInt8)).toArray :: ByteArray.mk ((102 : UInt8) :: (108 : UInt8) :: (117 : UInt8) :: (115 : UInt8) :: (104 : UInt8) :: ([] : List UInt8)).toArray :: ByteArray.mk ((115 : UInt8) :: (102 : UInt8) :: (101 : UInt8) :: (110 : UInt8) :: (99 : UInt8) :: (101 : UInt8) :: ([] : List UInt8)).toArray :: ByteArray.mk ((109 : UInt8) :: (102 : UInt8) :: (101 : UInt8) :: (110 : UInt8) :: (99 : UInt8) :: (101 : UInt8) :: ([] : List UInt8)).toArray :: ByteArray.mk ((106 : UInt8) :: (109 : UInt8) :: (112 : UInt8) :: ([] : List UInt8)).toArray :: ByteArray.mk ((98 : UInt8) :: (101 : UInt8) :: (113 : UInt8) :: ([] : List UInt8)).toArray :: ByteArray.mk ((98 : UInt8) :: (110 : UInt8) :: (101 : UInt8) :: ([] : List UInt8)).toArray :: ByteArray.mk ((98 : UInt8) :: (108 : UInt8) :: (116 : UInt8) :: ([] : List UInt8)).toArray :: ByteArray.mk ((116 : UInt8) :: (101 : UInt8) :: (108 : UInt8) :: (108 : UInt8) :: ([] : List UInt8)).toArray :: ByteArray.mk ((104 : UInt8) :: (97 : UInt8) :: (108 : UInt8) :: (116 : UInt8) :: ([] : List UInt8)).toArray :: ([] : List ByteArray)))).size : Int) + (1 : Int) ∧ (↑(hasS (idxI y (ByteArray.mk ((110 : UInt8) :: (111 : UInt8) :: (112 : UInt8) :: ([] : List UInt8)).toArray :: ByteArray.mk ((108 : UInt8) :: (105 : UInt8) :: ([] : List UInt8)).toArray :: ByteArray.mk ((97 : UInt8) :: (100 : UInt8) :: (100 : UInt8) :: ([] : List UInt8)).toArray :: ByteArray.mk ((115 : UInt8) :: (117 : UInt8) :: (98 : UInt8) :: ([] : List UInt8)).toArray :: ByteArray.mk ((97 : UInt8) :: (110 : UInt8) :: (100 : UInt8) :: ([] : List UInt8)).toArray :: ByteArray.mk ((120 : UInt8) :: (111 : UInt8) :: (114 : UInt8) :: ([] : List UInt8)).toArray :: ByteArray.mk ((115 : UInt8) :: (104 : UInt8) :: (108 : UInt8) :: ([] : List UInt8)).toArray :: ByteArray.mk ((115 : UInt8) :: (104 : UInt8) :: (114 : UInt8) :: ([] : List UInt8)).toArray :: ByteArray.mk ((108 : UInt8) :: (100 : UInt8) :: ([] : List UInt8)).toArray :: ByteArray.mk ((115 : UInt8) :: (116 : UInt8) :: ([] : List UInt8)).toArray :: ByteArray.mk ((99 : UInt8) :: (97 : UInt8) :: (115 : UInt8) :: ([] : List UInt8)).toArray :: ByteArray.mk ((120 : UInt8) :: (97 : UInt8) :: (100 : UInt8) :: (100 : UInt8) :: ([] : List UInt8)).toArray :: ByteArray.mk ((99 : UInt8) :: (108 : UInt8) :: (119 : UInt8) :: (98 : UInt8) :: ([] : List UInt8)).toArray :: ByteArray.mk ((111 : UInt8) :: (112 : UInt8) :: (116 : UInt8) :: ([] : List UInt8)).toArray :: ByteArray.mk ((102 : UInt8) :: (108 : UInt8) :: (117 : UInt8) :: (115 : UInt8) :: (104 : UInt8) :: ([] : List UInt8)).toArray :: ByteArray.mk ((115 : UInt8) :: (102 : UInt8) :: (101 : UInt8) :: (110 : UInt8) :: (99 : UInt8) :: (101 : UInt8) :: ([] : List UInt8)).toArray :: ByteArray.mk ((109 : UInt8) :: (102 : UInt8) :: (101 : UInt8) :: (110 : UInt8) :: (99 : UInt8) :: (101 : UInt8) :: ([] : List UInt8)).toArray :: ByteArray.mk ((106 : UInt8) :: (109 : UInt8) :: (112 : UInt8) :: ([] : List UInt8)).toArray :: ByteArray.mk ((98 : UInt8) :: (101 : UInt8) :: (113 : UInt8) :: ([] : List UInt8)).toArray :: ByteArray.mk ((98 : UInt8) :: (110 : UInt8) :: (101 : UInt8) :: ([] : List UInt8)).toArray :: ByteArray.mk ((98 : UInt8) :: (108 : UInt8) :: (116 : UInt8) :: ([] : List UInt8)).toArray :: ByteArray.mk ((116 : UInt8) :: (101 : UInt8) :: (108 : UInt8) :: (108 : UInt8) :: ([] : List UInt8)).toArray :: ByteArray.mk ((104 : UInt8) :: (97 : UInt8) :: (108 : UInt8) :: (116 : UInt8) :: ([] : List UInt8)).toArray :: ([] : List ByteArray)))).size : Int) + (1 : Int) ≤ (9223372036854775807 : Int)) ∧ (((↑(w0 :: r0).length : Int) != (↑(hasS (idxI y (ByteArray.mk ((110 : UInt8) :: (111 : UInt8) :: (112 : UInt8) :: ([] : List UInt8)).toArray :: ByteArray.mk ((108 : UInt8) :: (105 : UInt8) :: ([] : List UInt8)).toArray :: ByteArray.mk ((97 : UInt8) :: (100 : UInt8) :: (100 : UInt8) :: ([] : List UInt8)).toArray :: ByteArray.mk ((115 : UInt8) :: (117 : UInt8) :: (98 : UInt8) :: ([] : List UInt8)).toArray :: ByteArray.mk ((97 : UInt8) :: (110 : UInt8) :: (100 : UInt8) :: ([] : List UInt8)).toArray :: ByteArray.mk ((120 : UInt8) :: (111 : UInt8) :: (114 : UInt8) :: ([] : List UInt8)).toArray :: ByteArray.mk ((115 : UInt8) :: (104 : UInt8) :: (108 : UInt8) :: ([] : List UInt8)).toArray :: ByteArray.mk ((115 : UInt8) :: (104 : UInt8) :: (114 : UInt8) :: ([] : List UInt8)).toArray :: ByteArray.mk ((108 : UInt8) :: (100 : UInt8) :: ([] : List UInt8)).toArray :: ByteArray.mk ((115 : UInt8) :: (116 : UInt8) :: ([] : List UInt8)).toArray :: ByteArray.mk ((99 : UInt8) :: (97 : UInt8) :: (115 : UInt8) :: ([] : List UInt8)).toArray :: ByteArray.mk ((120 : UInt8) :: (97 : UInt8) :: (100 : UInt8) :: (100 : UInt8) :: ([] : List UInt8)).toArray :: ByteArray.mk ((99 : UInt8) :: (108 : UInt8) :: (119 : UInt8) :: (98 : UInt8) :: ([] : List UInt8)).toArray :: ByteArray.mk ((111 : UInt8) :: (112 : UInt8) :: (116 : UInt8) :: ([] : List UInt8)).toArray :: ByteArray.mk ((102 : UInt8) :: (108 : UInt8) :: (117 : UInt8) :: (115 : UInt8) :: (104 : UInt8) :: ([] : List UInt8)).toArray :: ByteArray.mk ((115 : UInt8) :: (102 : UInt8) :: (101 : UInt8) :: (110 : UInt8) :: (99 : UInt8) :: (101 : UInt8) :: ([] : List UInt8)).toArray :: ByteArray.mk ((109 : UInt8) :: (102 : UInt8) :: (101 : UInt8) :: (110 : UInt8) :: (99 : UInt8) :: (101 : UInt8) :: ([] : List UInt8)).toArray :: ByteArray.mk ((106 : UInt8) :: (109 : UInt8) :: (112 : UInt8) :: ([] : List UInt8)).toArray :: ByteArray.mk ((98 : UInt8) :: (101 : UInt8) :: (113 : UInt8) :: ([] : List UInt8)).toArray :: ByteArray.mk ((98 : UInt8) :: (110 : UInt8) :: (101 : UInt8) :: ([] : List UInt8)).toArray :: ByteArray.mk ((98 : UInt8) :: (108 : UInt8) :: (116 : UInt8) :: ([] : List UInt8)).toArray :: ByteArray.mk ((116 : UInt8) :: (101 : UInt8) :: (108 : UInt8) :: (108 : UInt8) :: ([] : List UInt8)).toArray :: ByteArray.mk ((104 : UInt8) :: (97 : UInt8) :: (108 : UInt8) :: (116 : UInt8) :: ([] : List UInt8)).toArray :: ([] : List ByteArray)))).size : Int) + (1 : Int)) = true → ∃ (x : Bool), ∃ (x_1 : List (Int × Int × Int × Int × Int)), ∃ (x_2 : List (ByteArray × Int)), ∃ (x_3 : List (Int × Int × ByteArray)), (false = x ∧ l ≍ x_1 ∧ ms ≍ x_2 ∧ us ≍ x_3 ∧ True) ∧ x = (insW numP (w0 :: r0)).isSome ∧ x_2 = ms ∧ ∀ (i : IN) (t : ByteArray), insW numP (w0 :: r0) = some (i, t) → x_1 = l ++ i :: ([] : List IN) ∧ x_3 = us ++ lbl (↑l.length : Int) line t) ∧ (((↑(w0 :: r0).length : Int) != (↑(hasS (idxI y (ByteArray.mk ((110 : UInt8) :: (111 : UInt8) :: (112 : UInt8) :: ([] : List UInt8)).toArray :: ByteArray.mk ((108 : UInt8) :: (105 : UInt8) :: ([] : List UInt8)).toArray :: ByteArray.mk ((97 : UInt8) :: (100 : UInt8) :: (100 : UInt8) :: ([] : List UInt8)).toArray :: ByteArray.mk ((115 : UInt8) :: (117 : UInt8) :: (98 : UInt8) :: ([] : List UInt8)).toArray :: ByteArray.mk ((97 : UInt8) :: (110 : UInt8) :: (100 : UInt8) :: ([] : List UInt8)).toArray :: ByteArray.mk ((120 : UInt8) :: (111 : UInt8) :: (114 : UInt8) :: ([] : List UInt8)).toArray :: ByteArray.mk ((115 : UInt8) :: (104 : UInt8) :: (108 : UInt8) :: ([] : List UInt8)).toArray :: ByteArray.mk ((115 : UInt8) :: (104 : UInt8) :: (114 : UInt8) :: ([] : List UInt8)).toArray :: ByteArray.mk ((108 : UInt8) :: (100 : UInt8) :: ([] : List UInt8)).toArray :: ByteArray.mk ((115 : UInt8) :: (116 : UInt8) :: ([] : List UInt8)).toArray :: ByteArray.mk ((99 : UInt8) :: (97 : UInt8) :: (115 : UInt8) :: ([] : List UInt8)).toArray :: ByteArray.mk ((120 : UInt8) :: (97 : UInt8) :: (100 : UInt8) :: (100 : UInt8) :: ([] : List UInt8)).toArray :: ByteArray.mk ((99 : UInt8) :: (108 : UInt8) :: (119 : UInt8) :: (98 : UInt8) :: ([] : List UInt8)).toArray :: ByteArray.mk ((111 : UInt8) :: (112 : UInt8) :: (116 : UInt8) :: ([] : List UInt8)).toArray :: ByteArray.mk ((102 : UInt8) :: (108 : UInt8) :: (117 : UInt8) :: (115 : UInt8) :: (104 : UInt8) :: ([] : List UInt8)).toArray :: ByteArray.mk ((115 : UInt8) :: (102 : UInt8) :: (101 : UInt8) :: (110 : UInt8) :: (99 : UInt8) :: (101 : UInt8) :: ([] : List UInt8)).toArray :: ByteArray.mk ((109 : UInt8) :: (102 : UInt8) :: (101 : UInt8) :: (110 : UInt8) :: (99 : UInt8) :: (101 : UInt8) :: ([] : List UInt8)).toArray :: ByteArray.mk ((106 : UInt8) :: (109 : UInt8) :: (112 : UInt8) :: ([] : List UInt8)).toArray :: ByteArray.mk ((98 : UInt8) :: (101 : UInt8) :: (113 : UInt8) :: ([] : List UInt8)).toArray :: ByteArray.mk ((98 : UInt8) :: (110 : UInt8) :: (101 : UInt8) :: ([] : List UInt8)).toArray :: ByteArray.mk ((98 : UInt8) :: (108 : UInt8) :: (116 : UInt8) :: ([] : List UInt8)).toArray :: ByteArray.mk ((116 : UInt8) :: (101 : UInt8) :: (108 : UInt8) :: (108 : UInt8) :: ([] : List UInt8)).toArray :: ByteArray.mk ((104 : UInt8) :: (97 : UInt8) :: (108 : UInt8) :: (116 : UInt8) :: ([] : List UInt8)).toArray :: ([] : List ByteArray)))).size : Int) + (1 : Int)) = false → (∃ (x : Nat × PN), I39 (idxI w0 nmL) (hasS (idxI w0 nmL)).data.toList (w0 :: r0).tail x.fst x.snd ∧ line = line ∧ w0 :: r0 ≍ w0 :: r0 ∧ idxI y (ByteArray.mk ((110 : UInt8) :: (111 : UInt8) :: (112 : UInt8) :: ([] : List UInt8)).toArray :: ByteArray.mk ((108 : UInt8) :: (105 : UInt8) :: ([] : List UInt8)).toArray :: ByteArray.mk ((97 : UInt8) :: (100 : UInt8) :: (100 : UInt8) :: ([] : List UInt8)).toArray :: ByteArray.mk ((115 : UInt8) :: (117 : UInt8) :: (98 : UInt8) :: ([] : List UInt8)).toArray :: ByteArray.mk ((97 : UInt8) :: (110 : UInt8) :: (100 : UInt8) :: ([] : List UInt8)).toArray :: ByteArray.mk ((120 : UInt8) :: (111 : UInt8) :: (114 : UInt8) :: ([] : List UInt8)).toArray :: ByteArray.mk ((115 : UInt8) :: (104 : UInt8) :: (108 : UInt8) :: ([] : List UInt8)).toArray :: ByteArray.mk ((115 : UInt8) :: (104 : UInt8) :: (114 : UInt8) :: ([] : List UInt8)).toArray :: ByteArray.mk ((108 : UInt8) :: (100 : UInt8) :: ([] : List UInt8)).toArray :: ByteArray.mk ((115 : UInt8) :: (116 : UInt8) :: ([] : List UInt8)).toArray :: ByteArray.mk ((99 : UInt8) :: (97 : UInt8) :: (115 : UInt8) :: ([] : List UInt8)).toArray :: ByteArray.mk ((120 : UInt8) :: (97 : UInt8) :: (100 : UInt8) :: (100 : UInt8) :: ([] : List UInt8)).toArray :: ByteArray.mk ((99 : UInt8) :: (108 : UInt8) :: (119 : UInt8) :: (98 : UInt8) :: ([] : List UInt8)).toArray :: ByteArray.mk ((111 : UInt8) :: (112 : UInt8) :: (116 : UInt8) :: ([] : List UInt8)).toArray :: ByteArray.mk ((102 : UInt8) :: (108 : UInt8) :: (117 : UInt8) :: (115 : UInt8) :: (104 : UInt8) :: ([] : List UInt8)).toArray :: ByteArray.mk ((115 : UInt8) :: (102 : UInt8) :: (101 : UInt8) :: (110 : UInt8) :: (99 : UInt8) :: (101 : UInt8) :: ([] : List UInt8)).toArray :: ByteArray.mk ((109 : UInt8) :: (102 : UInt8) :: (101 : UInt8) :: (110 : UInt8) :: (99 : UInt8) :: (101 : UInt8) :: ([] : List UInt8)).toArray :: ByteArray.mk ((106 : UInt8) :: (109 : UInt8) :: (112 : UInt8) :: ([] : List UInt8)).toArray :: ByteArray.mk ((98 : UInt8) :: (101 : UInt8) :: (113 : UInt8) :: ([] : List UInt8)).toArray :: ByteArray.mk ((98 : UInt8) :: (110 : UInt8) :: (101 : UInt8) :: ([] : List UInt8)).toArray :: ByteArray.mk ((98 : UInt8) :: (108 : UInt8) :: (116 : UInt8) :: ([] : List UInt8)).toArray :: ByteArray.mk ((116 : UInt8) :: (101 : UInt8) :: (108 : UInt8) :: (108 : UInt8) :: ([] : List UInt8)).toArray :: ByteArray.mk ((104 : UInt8) :: (97 : UInt8) :: (108 : UInt8) :: (116 : UInt8) :: ([] : List UInt8)).toArray :: ([] : List ByteArray)) = idxI w0 nmL ∧ l ≍ l ∧ ms ≍ ms ∧ us ≍ us ++ lbl (↑l.length : Int) line x.snd.snd ∧ idxI y (ByteArray.mk ((110 : UInt8) :: (111 : UInt8) :: (112 : UInt8) :: ([] : List UInt8)).toArray :: ByteArray.mk ((108 : UInt8) :: (105 : UInt8) :: ([] : List UInt8)).toArray :: ByteArray.mk ((97 : UInt8) :: (100 : UInt8) :: (100 : UInt8) :: ([] : List UInt8)).toArray :: ByteArray.mk ((115 : UInt8) :: (117 : UInt8) :: (98 : UInt8) :: ([] : List UInt8)).toArray :: ByteArray.mk ((97 : UInt8) :: (110 : UInt8) :: (100 : UInt8) :: ([] : List UInt8)).toArray :: ByteArray.mk ((120 : UInt8) :: (111 : UInt8) :: (114 : UInt8) :: ([] : List UInt8)).toArray :: ByteArray.mk ((115 : UInt8) :: (104 : UInt8) :: (108 : UInt8) :: ([] : List UInt8)).toArray :: ByteArray.mk ((115 : UInt8) :: (104 : UInt8) :: (114 : UInt8) :: ([] : List UInt8)).toArray :: ByteArray.mk ((108 : UInt8) :: (100 : UInt8) :: ([] : List UInt8)).toArray :: ByteArray.mk ((115 : UInt8) :: (116 : UInt8) :: ([] : List UInt8)).toArray :: ByteArray.mk ((99 : UInt8) :: (97 : UInt8) :: (115 : UInt8) :: ([] : List UInt8)).toArray :: ByteArray.mk ((120 : UInt8) :: (97 : UInt8) :: (100 : UInt8) :: (100 : UInt8) :: ([] : List UInt8)).toArray :: ByteArray.mk ((99 : UInt8) :: (108 : UInt8) :: (119 : UInt8) :: (98 : UInt8) :: ([] : List UInt8)).toArray :: ByteArray.mk ((111 : UInt8) :: (112 : UInt8) :: (116 : UInt8) :: ([] : List UInt8)).toArray :: ByteArray.mk ((102 : UInt8) :: (108 : UInt8) :: (117 : UInt8) :: (115 : UInt8) :: (104 : UInt8) :: ([] : List UInt8)).toArray :: ByteArray.mk ((115 : UInt8) :: (102 : UInt8) :: (101 : UInt8) :: (110 : UInt8) :: (99 : UInt8) :: (101 : UInt8) :: ([] : List UInt8)).toArray :: ByteArray.mk ((109 : UInt8) :: (102 : UInt8) :: (101 : UInt8) :: (110 : UInt8) :: (99 : UInt8) :: (101 : UInt8) :: ([] : List UInt8)).toArray :: ByteArray.mk ((106 : UInt8) :: (109 : UInt8) :: (112 : UInt8) :: ([] : List UInt8)).toArray :: ByteArray.mk ((98 : UInt8) :: (101 : UInt8) :: (113 : UInt8) :: ([] : List UInt8)).toArray :: ByteArray.mk ((98 : UInt8) :: (110 : UInt8) :: (101 : UInt8) :: ([] : List UInt8)).toArray :: ByteArray.mk ((98 : UInt8) :: (108 : UInt8) :: (116 : UInt8) :: ([] : List UInt8)).toArray :: ByteArray.mk ((116 : UInt8) :: (101 : UInt8) :: (108 : UInt8) :: (108 : UInt8) :: ([] : List UInt8)).toArray :: ByteArray.mk ((104 : UInt8) :: (97 : UInt8) :: (108 : UInt8) :: (116 : UInt8) :: ([] : List UInt8)).toArray :: ([] : List ByteArray)) = x.snd.fst.fst ∧ (0 : Int) = x.snd.fst.snd.fst ∧ (0 : Int) = x.snd.fst.snd.snd.fst ∧ (0 : Int) = x.snd.fst.snd.snd.snd.fst ∧ (0 : Int) = x.snd.fst.snd.snd.snd.snd ∧ hasS (idxI y (ByteArray.mk ((110 : UInt8) :: (111 : UInt8) :: (112 : UInt8) :: ([] : List UInt8)).toArray :: ByteArray.mk ((108 : UInt8) :: (105 : UInt8) :: ([] : List UInt8)).toArray :: ByteArray.mk ((97 : UInt8) :: (100 : UInt8) :: (100 : UInt8) :: ([] : List UInt8)).toArray :: ByteArray.mk ((115 : UInt8) :: (117 : UInt8) :: (98 : UInt8) :: ([] : List UInt8)).toArray :: ByteArray.mk ((97 : UInt8) :: (110 : UInt8) :: (100 : UInt8) :: ([] : List UInt8)).toArray :: ByteArray.mk ((120 : UInt8) :: (111 : UInt8) :: (114 : UInt8) :: ([] : List UInt8)).toArray :: ByteArray.mk ((115 : UInt8) :: (104 : UInt8) :: (108 : UInt8) :: ([] : List UInt8)).toArray :: ByteArray.mk ((115 : UInt8) :: (104 : UInt8) :: (114 : UInt8) :: ([] : List UInt8)).toArray :: ByteArray.mk ((108 : UInt8) :: (100 : UInt8) :: ([] : List UInt8)).toArray :: ByteArray.mk ((115 : UInt8) :: (116 : UInt8) :: ([] : List UInt8)).toArray :: ByteArray.mk ((99 : UInt8) :: (97 : UInt8) :: (115 : UInt8) :: ([] : List UInt8)).toArray :: ByteArray.mk ((120 : UInt8) :: (97 : UInt8) :: (100 : UInt8) :: (100 : UInt8) :: ([] : List UInt8)).toArray :: ByteArray.mk ((99 : UInt8) :: (108 : UInt8) :: (119 : UInt8) :: (98 : UInt8) :: ([] : List UInt8)).toArray :: ByteArray.mk ((111 : UInt8) :: (112 : UInt8) :: (116 : UInt8) :: ([] : List UInt8)).toArray :: ByteArray.mk ((102 : UInt8) :: (108 : UInt8) :: (117 : UInt8) :: (115 : UInt8) :: (104 : UInt8) :: ([] : List UInt8)).toArray :: ByteArray.mk ((115 : UInt8) :: (102 : UInt8) :: (101 : UInt8) :: (110 : UInt8) :: (99 : UInt8) :: (101 : UInt8) :: ([] : List UInt8)).toArray :: ByteArray.mk ((109 : UInt8) :: (102 : UInt8) :: (101 : UInt8) :: (110 : UInt8) :: (99 : UInt8) :: (101 : UInt8) :: ([] : List UInt8)).toArray :: ByteArray.mk ((106 : UInt8) :: (109 : UInt8) :: (112 : UInt8) :: ([] : List UInt8)).toArray :: ByteArray.mk ((98 : UInt8) :: (101 : UInt8) :: (113 : UInt8) :: ([] : List UInt8)).toArray :: ByteArray.mk ((98 : UInt8) :: (110 : UInt8) :: (101 : UInt8) :: ([] : List UInt8)).toArray :: ByteArray.mk ((98 : UInt8) :: (108 : UInt8) :: (116 : UInt8) :: ([] : List UInt8)).toArray :: ByteArray.mk ((116 : UInt8) :: (101 : UInt8) :: (108 : UInt8) :: (108 : UInt8) :: ([] : List UInt8)).toArray :: ByteArray.mk ((104 : UInt8) :: (97 : UInt8) :: (108 : UInt8) :: (116 : UInt8) :: ([] : List UInt8)).toArray :: ([] : List ByteArray))) = hasS (idxI w0 nmL) ∧ (0 : Nat) = x.fst ∧ True) ∧ ∀ (x : Nat × PN), I39 (idxI w0 nmL) (hasS (idxI w0 nmL)).data.toList (w0 :: r0).tail x.fst x.snd → (x.fst < (hasS (idxI w0 nmL)).size → ((-9223372036854775808 : Int) ≤ (↑x.fst : Int) + (1 : Int) ∧ (↑x.fst : Int) + (1 : Int) ≤ (9223372036854775807 : Int)) ∧ ((0 : Int) ≤ (↑x.fst : Int) + (1 : Int) ∧ (↑x.fst : Int) + (1 : Int) < (↑(w0 :: r0).length : Int)) ∧ ∀ (y : ByteArray), (w0 :: r0)[((↑x.fst : Int) + (1 : Int)).toNat]? = some y → (((↑(Utf8.decode (hasS (idxI w0 nmL)) x.fst).fst : Int) == (65 : Int)) = true → ((!(regR (regW y)).snd) = true → ∃ (x_1 : Bool), ∃ (x_2 : List (Int × Int × Int × Int × Int)), ∃ (x_3 : List (ByteArray × Int)), ∃ (x_4 : List (Int × Int × ByteArray)), (false = x_1 ∧ l ≍ x_2 ∧ ms ≍ x_3 ∧ us ++ lbl (↑l.length : Int) line x.snd.snd ≍ x_4 ∧ True) ∧ x_1 = (insW numP (w0 :: r0)).isSome ∧ x_3 = ms ∧ ∀ (i : IN) (t : ByteArray), insW numP (w0 :: r0) = some (i, t) → x_2 = l ++ i :: ([] : List IN) ∧ x_4 = us ++ lbl (↑l.length : Int) line t) ∧ ((!(regR (regW y)).snd) = false → ∃ (y_1 : Nat × PN), I39 (idxI w0 nmL) (hasS (idxI w0 nmL)).data.toList (w0 :: r0).tail y_1.fst y_1.snd ∧ (hasS (idxI w0 nmL)).size - y_1.fst < (hasS (idxI w0 nmL)).size - x.fst ∧ line = line ∧ w0 :: r0 ≍ w0 :: r0 ∧ idxI w0 nmL = idxI w0 nmL ∧ l ≍ l ∧ ms ≍ ms ∧ us ++ lbl (↑l.length : Int) line x.snd.snd ≍ us ++ lbl (↑l.length : Int) line y_1.snd.snd ∧ x.snd.fst.fst = y_1.snd.fst.fst ∧ (regR (regW y)).fst = y_1.snd.fst.snd.fst ∧ x.snd.fst.snd.snd.fst = y_1.snd.fst.snd.snd.fst ∧ x.snd.fst.snd.snd.snd.fst = y_1.snd.fst.snd.snd.snd.fst ∧ x.snd.fst.snd.snd.snd.snd = y_1.snd.fst.snd.snd.snd.snd ∧ hasS (idxI w0 nmL) = hasS (idxI w0 nmL) ∧ x.fst + (Utf8.decode (hasS (idxI w0 nmL)) x.fst).snd = y_1.fst ∧ True)) ∧ (((↑(Utf8.decode (hasS (idxI w0 nmL)) x.fst).fst : Int) == (65 : Int)) = false → (((↑(Utf8.decode (hasS (idxI w0 nmL)) x.fst).fst : Int) == (66 : Int)) = true → ((!(regR (regW y)).snd) = true → ∃ (x_1 : Bool), ∃ (x_2 : List (Int × Int × Int × Int × Int)), ∃ (x_3 : List (ByteArray × Int)), ∃ (x_4 : List (Int × Int × ByteArray)), (false = x_1 ∧ l ≍ x_2 ∧ ms ≍ x_3 ∧ us ++ lbl (↑l.length : Int) line x.snd.snd ≍ x_4 ∧ True) ∧ x_1 = (insW numP (w0 :: r0)).isSome ∧ x_3 = ms ∧ ∀ (i : IN) (t : ByteArray), insW numP (w0 :: r0) = some (i, t) → x_2 = l ++ i :: ([] : List IN) ∧ x_4 = us ++ lbl (↑l.length : Int) line t) ∧ ((!(regR (regW y)).snd) = false → ∃ (y_1 : Nat × PN), I39 (idxI w0 nmL) (hasS (idxI w0 nmL)).data.toList (w0 :: r0).tail y_1.fst y_1.snd ∧ (hasS (idxI w0 nmL)).size - y_1.fst < (hasS (idxI w0 nmL)).size - x.fst ∧ line = line ∧ w0 :: r0 ≍ w0 :: r0 ∧ idxI w0 nmL = idxI w0 nmL ∧ l ≍ l ∧ ms ≍ ms ∧ us ++ lbl (↑l.length : Int) line x.snd.snd ≍ us ++ lbl (↑l.length : Int) line y_1.snd.snd ∧ x.snd.fst.fst = y_1.snd.fst.fst ∧ x.snd.fst.snd.fst = y_1.snd.fst.snd.fst ∧ (regR (regW y)).fst = y_1.snd.fst.snd.snd.fst ∧ x.snd.fst.snd.snd.snd.fst = y_1.snd.fst.snd.snd.snd.fst ∧ x.snd.fst.snd.snd.snd.snd = y_1.snd.fst.snd.snd.snd.snd ∧ hasS (idxI w0 nmL) = hasS (idxI w0 nmL) ∧ x.fst + (Utf8.decode (hasS (idxI w0 nmL)) x.fst).snd = y_1.fst ∧ True)) ∧ (((↑(Utf8.decode (hasS (idxI w0 nmL)) x.fst).fst : Int) == (66 : Int)) = false → (((↑(Utf8.decode (hasS (idxI w0 nmL)) x.fst).fst : Int) == (67 : Int)) = true → ((!(regR (regW y)).snd) = true → ∃ (x_1 : Bool), ∃ (x_2 : List (Int × Int × Int × Int × Int)), ∃ (x_3 : List (ByteArray × Int)), ∃ (x_4 : List (Int × Int × ByteArray)), (false = x_1 ∧ l ≍ x_2 ∧ ms ≍ x_3 ∧ us ++ lbl (↑l.length : Int) line x.snd.snd ≍ x_4 ∧ True) ∧ x_1 = (insW numP (w0 :: r0)).isSome ∧ x_3 = ms ∧ ∀ (i : IN) (t : ByteArray), insW numP (w0 :: r0) = some (i, t) → x_2 = l ++ i :: ([] : List IN) ∧ x_4 = us ++ lbl (↑l.length : Int) line t) ∧ ((!(regR (regW y)).snd) = false → ∃ (y_1 : Nat × PN), I39 (idxI w0 nmL) (hasS (idxI w0 nmL)).data.toList (w0 :: r0).tail y_1.fst y_1.snd ∧ (hasS (idxI w0 nmL)).size - y_1.fst < (hasS (idxI w0 nmL)).size - x.fst ∧ line = line ∧ w0 :: r0 ≍ w0 :: r0 ∧ idxI w0 nmL = idxI w0 nmL ∧ l ≍ l ∧ ms ≍ ms ∧ us ++ lbl (↑l.length : Int) line x.snd.snd ≍ us ++ lbl (↑l.length : Int) line y_1.snd.snd ∧ x.snd.fst.fst = y_1.snd.fst.fst ∧ x.snd.fst.snd.fst = y_1.snd.fst.snd.fst ∧ x.snd.fst.snd.snd.fst = y_1.snd.fst.snd.snd.fst ∧ (regR (regW y)).fst = y_1.snd.fst.snd.snd.snd.fst ∧ x.snd.fst.snd.snd.snd.snd = y_1.snd.fst.snd.snd.snd.snd ∧ hasS (idxI w0 nmL) = hasS (idxI w0 nmL) ∧ x.fst + (Utf8.decode (hasS (idxI w0 nmL)) x.fst).snd = y_1.fst ∧ True)) ∧ (((↑(Utf8.decode (hasS (idxI w0 nmL)) x.fst).fst : Int) == (67 : Int)) = false → y.size ≤ (1000000 : Nat) ∧ ((!(numB y).snd && (decide (idxI w0 nmL ≥ (17 : Int)) && decide (idxI w0 nmL ≤ (20 : Int))) && labF y) = true → ((us ++ lbl (↑l.length : Int) line x.snd.snd).length + (((↑l.length : Int), line, y) :: ([] : List (Int × Int × ByteArray))).length) * (32 : Nat) ≤ (140737488355328 : Nat) ∧ ∃ (y_1 : Nat × PN), I39 (idxI w0 nmL) (hasS (idxI w0 nmL)).data.toList (w0 :: r0).tail y_1.fst y_1.snd ∧ (hasS (idxI w0 nmL)).size - y_1.fst < (hasS (idxI w0 nmL)).size - x.fst ∧ line = line ∧ w0 :: r0 ≍ w0 :: r0 ∧ idxI w0 nmL = idxI w0 nmL ∧ l ≍ l ∧ ms ≍ ms ∧ us ++ lbl (↑l.length : Int) line x.snd.snd ++ ((↑l.length : Int), line, y) :: ([] : List (Int × Int × ByteArray)) ≍ us ++ lbl (↑l.length : Int) line y_1.snd.snd ∧ x.snd.fst.fst = y_1.snd.fst.fst ∧ x.snd.fst.snd.fst = y_1.snd.fst.snd.fst ∧ x.snd.fst.snd.snd.fst = y_1.snd.fst.snd.snd.fst ∧ x.snd.fst.snd.snd.snd.fst = y_1.snd.fst.snd.snd.snd.fst ∧ (0 : Int) = y_1.snd.fst.snd.snd.snd.snd ∧ hasS (idxI w0 nmL) = hasS (idxI w0 nmL) ∧ x.fst + (Utf8.decode (hasS (idxI w0 nmL)) x.fst).snd = y_1.fst ∧ True) ∧ ((!(numB y).snd && (decide (idxI w0 nmL ≥ (17 : Int)) && decide (idxI w0 nmL ≤ (20 : Int))) && labF y) = false → ((!(numB y).snd) = true → ∃ (x_1 : Bool), ∃ (x_2 : List (Int × Int × Int × Int × Int)), ∃ (x_3 : List (ByteArray × Int)), ∃ (x_4 : List (Int × Int × ByteArray)), (false = x_1 ∧ l ≍ x_2 ∧ ms ≍ x_3 ∧ us ++ lbl (↑l.length : Int) line x.snd.snd ≍ x_4 ∧ True) ∧ x_1 = (insW numP (w0 :: r0)).isSome ∧ x_3 = ms ∧ ∀ (i : IN) (t : ByteArray), insW numP (w0 :: r0) = some (i, t) → x_2 = l ++ i :: ([] : List IN) ∧ x_4 = us ++ lbl (↑l.length : Int) line t) ∧ ((!(numB y).snd) = false → ∃ (y_1 : Nat × PN), I39 (idxI w0 nmL) (hasS (idxI w0 nmL)).data.toList (w0 :: r0).tail y_1.fst y_1.snd ∧ (hasS (idxI w0 nmL)).size - y_1.fst < (hasS (idxI w0 nmL)).size - x.fst ∧ line = line ∧ w0 :: r0 ≍ w0 :: r0 ∧ idxI w0 nmL = idxI w0 nmL ∧ l ≍ l ∧ ms ≍ ms ∧ us ++ lbl (↑l.length : Int) line x.snd.snd ≍ us ++ lbl (↑l.length : Int) line y_1.snd.snd ∧ x.snd.fst.fst = y_1.snd.fst.fst ∧ x.snd.fst.snd.fst = y_1.snd.fst.snd.fst ∧ x.snd.fst.snd.snd.fst = y_1.snd.fst.snd.snd.fst ∧ x.snd.fst.snd.snd.snd.fst = y_1.snd.fst.snd.snd.snd.fst ∧ (numB y).fst = y_1.snd.fst.snd.snd.snd.snd ∧ hasS (idxI w0 nmL) = hasS (idxI w0 nmL) ∧ x.fst + (Utf8.decode (hasS (idxI w0 nmL)) x.fst).snd = y_1.fst ∧ True)))))) ∧ ((hasS (idxI w0 nmL)).size ≤ x.fst → (l.length + ((x.snd.fst.fst, x.snd.fst.snd.fst, x.snd.fst.snd.snd.fst, x.snd.fst.snd.snd.snd.fst, x.snd.fst.snd.snd.snd.snd) :: ([] : List (Int × Int × Int × Int × Int))).length) * (40 : Nat) ≤ (140737488355328 : Nat) ∧ ∃ (x_1 : Bool), ∃ (x_2 : List (Int × Int × Int × Int × Int)), ∃ (x_3 : List (ByteArray × Int)), ∃ (x_4 : List (Int × Int × ByteArray)), (goodF (x.snd.fst.fst, x.snd.fst.snd.fst, x.snd.fst.snd.snd.fst, x.snd.fst.snd.snd.snd.fst, x.snd.fst.snd.snd.snd.snd) = x_1 ∧ l ++ (x.snd.fst.fst, x.snd.fst.snd.fst, x.snd.fst.snd.snd.fst, x.snd.fst.snd.snd.snd.fst, x.snd.fst.snd.snd.snd.snd) :: ([] : List (Int × Int × Int × Int × Int)) ≍ x_2 ∧ ms ≍ x_3 ∧ us ++ lbl (↑l.length : Int) line x.snd.snd ≍ x_4 ∧ True) ∧ x_1 = (insW numP (w0 :: r0)).isSome ∧ x_3 = ms ∧ ∀ (i : IN) (t : ByteArray), insW numP (w0 :: r0) = some (i, t) → x_2 = l ++ i :: ([] : List IN) ∧ x_4 = us ++ lbl (↑l.length : Int) line t)))) = _) ?_
  rw [← nmL_eq]
  refine ⟨⟨by omega, by simp⟩, fun y hy => ?_⟩
  obtain rfl : w0 = y := Option.some.inj hy
  have hgo := @insW_go numP w0 r0
  have hlen := @insW_len numP w0 r0
  generalize hop : idxI w0 nmL = op
  rw [hop] at hgo hlen
  have hz := has_size op
  refine ⟨fun h => fail39 (hlen (by simp only [decide_eq_true_eq] at h; omega)), fun h => ⟨by omega, fun h2 => fail39 (hlen ?_), fun h2 => ?_⟩⟩
  · simp only [bne_iff_ne, ne_eq, List.length_cons] at h2; omega
  simp only [decide_eq_false_iff_not] at h
  simp only [bne_eq_false_iff_eq, List.length_cons] at h2
  have hrl : r0.length = (hasS op).size := by omega
  have hgo := hgo ⟨by omega, hrl⟩
  have hsl := size_list (hasS op)
  refine ⟨⟨(0, ((op, 0, 0, 0, 0), e0)), ⟨Nat.zero_le _, rfl, fun _ => ⟨rfl, rfl⟩⟩, rfl, HEq.rfl, rfl, HEq.rfl, HEq.rfl, heq_of_eq (by rw [lbl_nil, List.append_nil]), rfl, rfl, rfl, rfl, rfl, rfl, rfl, trivial⟩, ?_⟩
  rintro ⟨k, ⟨⟨o, a, b, d, m⟩, t⟩⟩ hx
  have he := hx.e
  dsimp only at he ⊢
  rw [List.tail_cons] at he
  refine ⟨fun hk => ⟨by omega, by simp only [List.length_cons]; omega, fun y hy => ?_⟩, fun hk => ⟨by simp only [List.length_singleton]; omega, ?_⟩⟩
  · obtain ⟨c, hc, hc2, hc3⟩ := has_at hk
    have hy' : r0[k]? = some y := by rw [show ((k : Int) + 1).toNat = k + 1 by omega] at hy; simpa using hy
    rw [goI_step hc hy'] at he
    obtain ⟨ht, hm⟩ := hx.n (by dsimp only; omega)
    dsimp only at ht hm
    subst ht hm
    rw [hc3]
    dsimp only
    have no : fldR numP op c y ((o, a, b, d, 0), e0) = none → insW numP (w0 :: r0) = none := fun e => by rw [hgo, he, e]; rfl
    have yes : ∀ x' : PN, fldR numP op c y ((o, a, b, d, 0), e0) = some x' → (k + 1 < (hasS op).data.toList.length → x'.2 = e0 ∧ x'.1.2.2.2.2 = 0) → I39 op (hasS op).data.toList (w0 :: r0).tail (k + 1) x' := fun x' e e2 => ⟨by omega, by rw [List.tail_cons, he, e]; rfl, e2⟩
    rcases hc2 with rfl | rfl | rfl | rfl
    · refine ⟨fun _ => ⟨fun z => fail39 (no (by rw [fld65, regR_no z]; rfl)), fun z => ⟨(k + 1, ((o, (regR (regW y)).1, b, d, 0), e0)), yes _ (by rw [fld65, regR_yes z]; rfl) fun _ => ⟨rfl, rfl⟩, by dsimp only; omega, rfl, HEq.rfl, rfl, HEq.rfl, HEq.rfl, HEq.rfl, rfl, rfl, rfl, rfl, rfl, rfl, rfl, trivial⟩⟩, fun q => absurd q (by decide)⟩
    · refine ⟨fun q => absurd q (by decide), fun _ => ⟨fun _ => ⟨fun z => fail39 (no (by rw [fld66, regR_no z]; rfl)), fun z => ⟨(k + 1, ((o, a, (regR (regW y)).1, d, 0), e0)), yes _ (by rw [fld66, regR_yes z]; rfl) fun _ => ⟨rfl, rfl⟩, by dsimp only; omega, rfl, HEq.rfl, rfl, HEq.rfl, HEq.rfl, HEq.rfl, rfl, rfl, rfl, rfl, rfl, rfl, rfl, trivial⟩⟩, fun q => absurd q (by decide)⟩⟩
    · refine ⟨fun q => absurd q (by decide), fun _ => ⟨fun q => absurd q (by decide), fun _ => ⟨fun _ => ⟨fun z => fail39 (no (by rw [fld67, regR_no z]; rfl)), fun z => ⟨(k + 1, ((o, a, b, (regR (regW y)).1, 0), e0)), yes _ (by rw [fld67, regR_yes z]; rfl) fun _ => ⟨rfl, rfl⟩, by dsimp only; omega, rfl, HEq.rfl, rfl, HEq.rfl, HEq.rfl, HEq.rfl, rfl, rfl, rfl, rfl, rfl, rfl, rfl, trivial⟩⟩, fun q => absurd q (by decide)⟩⟩⟩
    · have hlast := has_last hc
      refine ⟨fun q => absurd q (by decide), fun _ => ⟨fun q => absurd q (by decide), fun _ => ⟨fun q => absurd q (by decide), fun _ => ⟨hsz y (List.mem_of_getElem? hy), fun z => ?_, fun z => ⟨fun z2 => fail39 (no ?_), fun z2 => ?_⟩⟩⟩⟩⟩
      · simp only [Bool.and_eq_true, Bool.not_eq_true'] at z
        obtain ⟨⟨z1, z2⟩, z3⟩ := z
        have hj : (jmpF op && labF y) = true := by rw [jmpF, Bool.and_eq_true, Bool.and_eq_true]; exact ⟨z2, z3⟩
        refine ⟨?_, (k + 1, ((o, a, b, d, 0), y)), yes _ (by rw [fld73, numP, if_neg (by rw [z1]; decide)]; exact if_pos hj) (fun q => by omega), by dsimp only; omega, rfl, HEq.rfl, rfl, HEq.rfl, HEq.rfl, heq_of_eq (by rw [lbl_nil, List.append_nil, lbl_one z3]), rfl, rfl, rfl, rfl, rfl, rfl, rfl, trivial⟩
        rw [lbl_nil]
        simp only [List.append_nil, List.length_singleton]; omega
      · simp only [Bool.not_eq_true'] at z2
        rw [z2, Bool.not_false, Bool.true_and] at z
        rw [fld73, numP, if_neg (by rw [z2]; decide)]
        refine if_neg ?_
        rw [jmpF]
        intro q
        rw [z] at q; cases q
      · simp only [Bool.not_eq_false'] at z2
        exact ⟨(k + 1, ((o, a, b, d, (numB y).1), e0)), yes _ (by rw [fld73, numP, if_pos z2]) (fun q => by omega), by dsimp only; omega, rfl, HEq.rfl, rfl, HEq.rfl, HEq.rfl, HEq.rfl, rfl, rfl, rfl, rfl, rfl, rfl, rfl, trivial⟩
  · rw [goI_end (by omega) (by omega)] at he
    refine ⟨_, _, _, _, ⟨rfl, HEq.rfl, HEq.rfl, HEq.rfl, trivial⟩, ?_, rfl, fun i t' e => ?_⟩
    · rw [hgo, he]
      cases hg : goodF (o, a, b, d, m) <;> simp [hg]
    · rw [hgo, he] at e
      cases hg : goodF (o, a, b, d, m) with
      | false => simp [hg] at e
      | true =>
        simp only [Option.bind_some, hg, if_true, Option.some.injEq, Prod.mk.injEq] at e
        obtain ⟨rfl, rfl⟩ := e
        exact ⟨rfl, rfl⟩
abbrev N14 : List (Nat × Spec) := (39, .full ins1.call) :: N13
theorem N14_all : ∀ p ∈ N14, Valid Tryz.prog p.1 p.2 := vcons v39 N13_all
theorem N14_ok : ∀ f S, spL N14 f = some S → Valid Tryz.prog f S := spL_ok N14_all
end Go.Proofs.YtnbbooilapelmaaGreatDoor.V

namespace Go.Proofs.YtnbbooilapelmaaGreatDoor.V
open Go.RowKit Go.Proofs.YtnbbooilapelmaaGreatDoor
set_option linter.unusedSimpArgs false
set_option pp.deepTerms true
set_option pp.maxSteps 200000
abbrev N15 : List (Nat × Spec) := inl1 42 Tryz.f42 N14 :: N14
theorem N15_all : ∀ p ∈ N15, Valid Tryz.prog p.1 p.2 := vcons (valid_inl mixed Tbl_ok N14_ok Tryz.func42 call42 noLp) N14_all
theorem N15_ok : ∀ f S, spL N15 f = some S → Valid Tryz.prog f S := spL_ok N15_all
structure I23 (op : Int) (cs : List UInt8) (ws : List ByteArray) (k : Nat) (x : PN) : Prop where
  kl : k ≤ cs.length
  e : goI numQ op cs ws ((op, 0, 0, 0, 0), e0) = goI numQ op (cs.drop k) (ws.drop k) x
  n : k < cs.length → x.2 = e0 ∧ x.1.2.2.2.2 = 0
/-- What is found among the first names. -/
def idxTo (w : ByteArray) (i : Nat) : Int := if idxI w nmL < (i : Int) then idxI w nmL else -1
abbrev zB : Ck := .blk [vi 0, vi 0, vi 0, vi 0, vi 0] 40
abbrev lp23 (W : List ByteArray) (w0 : ByteArray) : Nat → Option LoopSp := fun r => match r with
  | 3 => some { X := Nat, sl := fun x => [(0, .one (.rd .str W)), (2, .one (.ptr 0 0)), (5, .one (vi (idxTo w0 x))), (6, .one (vi x))], h := fun x => [(0, zB)], nx := 1, inv := fun x => x ≤ 23, mu := fun x => 23 - x }
  | 12 => some { X := Nat × PN, sl := fun x => [(0, .one (.rd .str W)), (2, .one (.ptr 0 0)), (5, .one (vi (idxI w0 nmL))), (7, .one (.val (.string (hasS (idxI w0 nmL))))), (8, .one (.ptr 1 0)), (9, .one (.val (.string x.2.2))), (10, .one (vi x.1))], h := fun x => [(0, zB), (1, .blk [vi x.2.1.1, vi x.2.1.2.1, vi x.2.1.2.2.1, vi x.2.1.2.2.2.1, vi x.2.1.2.2.2.2] 40)], nx := 2, inv := fun x => I23 (idxI w0 nmL) (hasS (idxI w0 nmL)).data.toList W.tail x.1 x.2, mu := fun x => (hasS (idxI w0 nmL)).size - x.1 }
  | _ => none
abbrev pre23 (W : List ByteArray) : Prop := W ≠ []
def rel23 (W : List ByteArray) (y : IN × ByteArray × Bool) : Prop := (∀ i t, insW numQ W = some (i, t) → y = (i, t, true)) ∧ (insW numQ W = none → y.2.2 = false)
theorem idxI_get {w : ByteArray} : ∀ {l : List ByteArray}, 0 ≤ idxI w l → l[(idxI w l).toNat]? = some w
  | [], h => by simp [idxI] at h
  | x :: r, h => by
    rw [idxI] at h ⊢
    by_cases hx : x = w
    · rw [if_pos hx]; simp [hx]
    · rw [if_neg hx] at h ⊢
      by_cases hr : idxI w r < 0
      · rw [if_pos hr] at h; omega
      · rw [if_neg hr]
        have ih := idxI_get (w := w) (l := r) (by omega)
        rw [show (idxI w r + 1).toNat = (idxI w r).toNat + 1 by omega]
        simpa using ih
theorem idxI_lt {w : ByteArray} : ∀ {l : List ByteArray}, idxI w l < l.length ∧ -1 ≤ idxI w l
  | [] => by simp [idxI]
  | x :: r => by
    have ih := idxI_lt (w := w) (l := r)
    rw [idxI]
    simp only [List.length_cons]
    by_cases hx : x = w
    · rw [if_pos hx]; omega
    · rw [if_neg hx]
      by_cases hr : idxI w r < 0
      · rw [if_pos hr]; omega
      · rw [if_neg hr]; omega
theorem nmL_nd : ∀ j < 23, ∀ x < 23, nmL[j]? = nmL[x]? → j = x := by decide
theorem idx_hit2 {w : ByteArray} {x : Nat} (h : nmL[x]? = some w) : idxI w nmL = x := idxI_at h fun j hj e => by
  have h1 : x < 23 := (List.getElem?_eq_some_iff.1 h).1
  have := nmL_nd j (by omega) x h1 (e.trans h.symm)
  omega
theorem idxTo_hit {w : ByteArray} {x : Nat} (h : nmL[x]? = some w) : idxTo w (x + 1) = x := by
  rw [idxTo, idx_hit2 h, if_pos (by omega)]
theorem idxTo_miss {w y : ByteArray} {x : Nat} (hy : nmL[x]? = some y) (h : y ≠ w) : idxTo w (x + 1) = idxTo w x := by
  have hne : idxI w nmL ≠ x := fun e => by
    have := idxI_get (w := w) (l := nmL) (by omega)
    rw [e, Int.toNat_natCast, hy] at this
    exact h (Option.some.inj this)
  have := (idxI_lt (w := w) (l := nmL)).2
  rw [idxTo, idxTo]
  by_cases hx : idxI w nmL < (x : Int)
  · rw [if_pos hx, if_pos (by omega)]
  · rw [if_neg hx, if_neg (by omega)]
theorem idxTo_all (w : ByteArray) : idxTo w 23 = idxI w nmL := by
  have := (idxI_lt (w := w) (l := nmL)).1
  have h23 : nmL.length = 23 := rfl
  rw [idxTo, if_pos (by omega)]
theorem idxTo_zero (w : ByteArray) : idxTo w 0 = -1 := by
  have := (idxI_lt (w := w) (l := nmL)).2
  rw [idxTo]
  split
  · omega
  · rfl
theorem fail23 {W : List ByteArray} (h : insW numQ W = none) : ∃ y : IN × ByteArray × Bool, ((∀ (i : IN) (t : ByteArray), insW numQ W = some (i, t) → y = (i, t, true)) ∧ (insW numQ W = none → y.2.2 = false)) ∧ 0 = y.1.1 ∧ 0 = y.1.2.1 ∧ 0 = y.1.2.2.1 ∧ 0 = y.1.2.2.2.1 ∧ 0 = y.1.2.2.2.2 ∧ Value.string ⟨([] : List UInt8).toArray⟩ = Value.string y.2.1 ∧ false = y.2.2 ∧ True :=
  ⟨((0, 0, 0, 0, 0), e0, false), ⟨fun i t e => (by rw [h] at e; cases e), fun _ => rfl⟩, rfl, rfl, rfl, rfl, rfl, rfl, rfl, trivial⟩
theorem regW_len {w : ByteArray} (h : w.size ≠ 2) : regW w = none := by
  have hsz := size_list w
  rw [regW]
  split
  · rename_i c d e; rw [e] at hsz; exact absurd hsz.symm h
  · rfl
theorem regW_two {w : ByteArray} {c d : UInt8} (h : w.data.toList = [c, d]) : regW w = if c = 114 ∧ 48 ≤ d.toNat ∧ d.toNat ≤ 55 then some ((d.toNat : Int) - 48) else none := by rw [regW, h]
theorem v23 : Valid Tryz.prog 23 (.pre (rS [pSs] [pN, pS, pB] pre23 rel23)) := by
  refine rS_ok mixed Tbl_ok N15_ok Tryz.func23 call23 rfl ?_
  intro (W : List ByteArray) hr hW
  have hW : W ≠ [] := hW
  obtain ⟨w0, r0, rfl⟩ : ∃ w r, W = w :: r := by
    cases W with
    | nil => exact absurd rfl hW
    | cons w r => exact ⟨w, r, rfl⟩
  refine ⟨lp23 (w0 :: r0) w0, ?_⟩
  refine Eq.mp (by kernel_rfl : ((∃ (x : Nat), x ≤ (23 : Nat) ∧ w0 :: r0 ≍ w0 :: r0 ∧ (-1 : Int) = idxTo w0 x ∧ (0 : Int) = (↑x : Int) ∧ (0 : Int) = (0 : Int) ∧ (0 : Int) = (0 : Int) ∧ (0 : Int) = (0 : Int) ∧ (0 : Int) = (0 : Int) ∧ (0 : Int) = (0 : Int) ∧ True) ∧ ∀ (x : Nat), x ≤ (23 : Nat) → (decide ((↑x : Int) ≤ (22 : Int)) = true → ((0 : Int) ≤ (0 : Int) ∧ (0 : Int) < (↑(w0 :: r0).length : Int)) ∧ ∀ (y : ByteArray), (w0 :: r0)[Int.toNat (0 : Int)]? = some y → ((0 : Int) ≤ (↑x : Int) ∧ (↑x : Int) < (↑nmL.length : Int)) ∧ ∀ (y_1 : ByteArray), nmL[(↑x : Int).toNat]? = some y_1 → ((y_1.toList == y.toList) = true → ((-9223372036854775808 : Int) ≤ (↑x : Int) + (1 : Int) ∧ (↑x : Int) + (1 : Int) ≤ (9223372036854775807 : Int)) ∧ ∃ (y : Nat), y ≤ (23 : Nat) ∧ (23 : Nat) - y < (23 : Nat) - x ∧ w0 :: r0 ≍ w0 :: r0 ∧ (↑x : Int) = idxTo w0 y ∧ (↑x : Int) + (1 : Int) = (↑y : Int) ∧ (0 : Int) = (0 : Int) ∧ (0 : Int) = (0 : Int) ∧ (0 : Int) = (0 : Int) ∧ (0 : Int) = (0 : Int) ∧ (0 : Int) = (0 : Int) ∧ True) ∧ ((y_1.toList == y.toList) = false → ((-9223372036854775808 : Int) ≤ (↑x : Int) + (1 : Int) ∧ (↑x : Int) + (1 : Int) ≤ (9223372036854775807 : Int)) ∧ ∃ (y : Nat), y ≤ (23 : Nat) ∧ (23 : Nat) - y < (23 : Nat) - x ∧ w0 :: r0 ≍ w0 :: r0 ∧ idxTo w0 x = idxTo w0 y ∧ (↑x : Int) + (1 : Int) = (↑y : Int) ∧ (0 : Int) = (0 : Int) ∧ (0 : Int) = (0 : Int) ∧ (0 : Int) = (0 : Int) ∧ (0 : Int) = (0 : Int) ∧ (0 : Int) = (0 : Int) ∧ True)) ∧ (decide ((↑x : Int) ≤ (22 : Int)) = false → (decide (idxTo w0 x < (0 : Int)) = true → ∃ (y : Tup (pN :: pS :: pB :: ([] : List PS))), ((∀ (i : IN) (t : ByteArray), insW numQ (w0 :: r0) = some (i, t) → y = (i, t, true)) ∧ (insW numQ (w0 :: r0) = (none : Option PN) → y.snd.snd = false)) ∧ (0 : Int) = y.fst.fst ∧ (0 : Int) = y.fst.snd.fst ∧ (0 : Int) = y.fst.snd.snd.fst ∧ (0 : Int) = y.fst.snd.snd.snd.fst ∧ (0 : Int) = y.fst.snd.snd.snd.snd ∧ Value.string (ByteArray.mk ([] : List UInt8).toArray) = Value.string y.snd.fst ∧ false = y.snd.snd ∧ True) ∧ (decide (idxTo w0 x < (0 : Int)) = false → ((-9223372036854775808 : Int) ≤ (1 : Int) + (↑(hasS (idxTo w0 x)).size : Int) ∧ (1 : Int) + (↑(hasS (idxTo w0 x)).size : Int) ≤ (9223372036854775807 : Int)) ∧ (((↑(w0 :: r0).length : Int) != (1 : Int) + (↑(hasS (idxTo w0 x)).size : Int)) = true → ∃ (y : Tup (pN :: pS :: pB :: ([] : List PS))), ((∀ (i : IN) (t : ByteArray), insW numQ (w0 :: r0) = some (i, t) → y = (i, t, true)) ∧ (insW numQ (w0 :: r0) = (none : Option PN) → y.snd.snd = false)) ∧ (0 : Int) = y.fst.fst ∧ (0 : Int) = y.fst.snd.fst ∧ (0 : Int) = y.fst.snd.snd.fst ∧ (0 : Int) = y.fst.snd.snd.snd.fst ∧ (0 : Int) = y.fst.snd.snd.snd.snd ∧ Value.string (ByteArray.mk ([] : List UInt8).toArray) = Value.string y.snd.fst ∧ false = y.snd.snd ∧ True) ∧ (((↑(w0 :: r0).length : Int) != (1 : Int) + (↑(hasS (idxTo w0 x)).size : Int)) = false → (∃ (x_1 : Nat × PN), I23 (idxI w0 nmL) (hasS (idxI w0 nmL)).data.toList (w0 :: r0).tail x_1.fst x_1.snd ∧ w0 :: r0 ≍ w0 :: r0 ∧ idxTo w0 x = idxI w0 nmL ∧ Value.string (hasS (idxTo w0 x)) = Value.string (hasS (idxI w0 nmL)) ∧ Value.string (ByteArray.mk ([] : List UInt8).toArray) = Value.string x_1.snd.snd ∧ (0 : Int) = (↑x_1.fst : Int) ∧ (0 : Int) = (0 : Int) ∧ (0 : Int) = (0 : Int) ∧ (0 : Int) = (0 : Int) ∧ (0 : Int) = (0 : Int) ∧ (0 : Int) = (0 : Int) ∧ idxTo w0 x = x_1.snd.fst.fst ∧ (0 : Int) = x_1.snd.fst.snd.fst ∧ (0 : Int) = x_1.snd.fst.snd.snd.fst ∧ (0 : Int) = x_1.snd.fst.snd.snd.snd.fst ∧ (0 : Int) = x_1.snd.fst.snd.snd.snd.snd ∧ True) ∧ ∀ (x : Nat × PN), I23 (idxI w0 nmL) (hasS (idxI w0 nmL)).data.toList (w0 :: r0).tail x.fst x.snd → (decide ((↑x.fst : Int) < (↑(hasS (idxI w0 nmL)).size : Int)) = true → ((-9223372036854775808 : Int) ≤ (1 : Int) + (↑x.fst : Int) ∧ (1 : Int) + (↑x.fst : Int) ≤ (9223372036854775807 : Int)) ∧ ((0 : Int) ≤ (1 : Int) + (↑x.fst : Int) ∧ (1 : Int) + (↑x.fst : Int) < (↑(w0 :: r0).length : Int)) ∧ ∀ (y : ByteArray), (w0 :: r0)[((1 : Int) + (↑x.fst : Int)).toNat]? = some y → ((0 : Int) ≤ (↑x.fst : Int) ∧ (↑x.fst : Int) < (↑(hasS (idxI w0 nmL)).size : Int)) ∧ ∀ (y_1 : UInt8), (hasS (idxI w0 nmL))[(↑x.fst : Int).toNat]? = some y_1 → (((↑y_1.toNat : Int) == (73 : Int)) = true → ((!(numR y).snd) = true → (((idxI w0 nmL == (17 : Int) || idxI w0 nmL == (18 : Int) || idxI w0 nmL == (19 : Int) || idxI w0 nmL == (20 : Int)) && labF y) = true → ((-9223372036854775808 : Int) ≤ (↑x.fst : Int) + (1 : Int) ∧ (↑x.fst : Int) + (1 : Int) ≤ (9223372036854775807 : Int)) ∧ ∃ (y_2 : Nat × PN), I23 (idxI w0 nmL) (hasS (idxI w0 nmL)).data.toList (w0 :: r0).tail y_2.fst y_2.snd ∧ (hasS (idxI w0 nmL)).size - y_2.fst < (hasS (idxI w0 nmL)).size - x.fst ∧ w0 :: r0 ≍ w0 :: r0 ∧ idxI w0 nmL = idxI w0 nmL ∧ Value.string (hasS (idxI w0 nmL)) = Value.string (hasS (idxI w0 nmL)) ∧ Value.string y = Value.string y_2.snd.snd ∧ (↑x.fst : Int) + (1 : Int) = (↑y_2.fst : Int) ∧ (0 : Int) = (0 : Int) ∧ (0 : Int) = (0 : Int) ∧ (0 : Int) = (0 : Int) ∧ (0 : Int) = (0 : Int) ∧ (0 : Int) = (0 : Int) ∧ x.snd.fst.fst = y_2.snd.fst.fst ∧ x.snd.fst.snd.fst = y_2.snd.fst.snd.fst ∧ x.snd.fst.snd.snd.fst = y_2.snd.fst.snd.snd.fst ∧ x.snd.fst.snd.snd.snd.fst = y_2.snd.fst.snd.snd.snd.fst ∧ x.snd.fst.snd.snd.snd.snd = y_2.snd.fst.snd.snd.snd.snd ∧ True) ∧ (((idxI w0 nmL == (17 : Int) || idxI w0 nmL == (18 : Int) || idxI w0 nmL == (19 : Int) || idxI w0 nmL == (20 : Int)) && labF y) = false → ((!(numR y).snd) = true → ∃ (y : Tup (pN :: pS :: pB :: ([] : List PS))), ((∀ (i : IN) (t : ByteArray), insW numQ (w0 :: r0) = some (i, t) → y = (i, t, true)) ∧ (insW numQ (w0 :: r0) = (none : Option PN) → y.snd.snd = false)) ∧ (0 : Int) = y.fst.fst ∧ (0 : Int) = y.fst.snd.fst ∧ (0 : Int) = y.fst.snd.snd.fst ∧ (0 : Int) = y.fst.snd.snd.snd.fst ∧ (0 : Int) = y.fst.snd.snd.snd.snd ∧ Value.string (ByteArray.mk ([] : List UInt8).toArray) = Value.string y.snd.fst ∧ false = y.snd.snd ∧ True) ∧ ((!(numR y).snd) = false → ((-9223372036854775808 : Int) ≤ (↑x.fst : Int) + (1 : Int) ∧ (↑x.fst : Int) + (1 : Int) ≤ (9223372036854775807 : Int)) ∧ ∃ (y_2 : Nat × PN), I23 (idxI w0 nmL) (hasS (idxI w0 nmL)).data.toList (w0 :: r0).tail y_2.fst y_2.snd ∧ (hasS (idxI w0 nmL)).size - y_2.fst < (hasS (idxI w0 nmL)).size - x.fst ∧ w0 :: r0 ≍ w0 :: r0 ∧ idxI w0 nmL = idxI w0 nmL ∧ Value.string (hasS (idxI w0 nmL)) = Value.string (hasS (idxI w0 nmL)) ∧ Value.string x.snd.snd = Value.string y_2.snd.snd ∧ (↑x.fst : Int) + (1 : Int) = (↑y_2.fst : Int) ∧ (0 : Int) = (0 : Int) ∧ (0 : Int) = (0 : Int) ∧ (0 : Int) = (0 : Int) ∧ (0 : Int) = (0 : Int) ∧ (0 : Int) = (0 : Int) ∧ x.snd.fst.fst = y_2.snd.fst.fst ∧ x.snd.fst.snd.fst = y_2.snd.fst.snd.fst ∧ x.snd.fst.snd.snd.fst = y_2.snd.fst.snd.snd.fst ∧ x.snd.fst.snd.snd.snd.fst = y_2.snd.fst.snd.snd.snd.fst ∧ (numR y).fst = y_2.snd.fst.snd.snd.snd.snd ∧ True))) ∧ ((!(numR y).snd) = false → ((!(numR y).snd) = true → ∃ (y : Tup (pN :: pS :: pB :: ([] : List PS))), ((∀ (i : IN) (t : ByteArray), insW numQ (w0 :: r0) = some (i, t) → y = (i, t, true)) ∧ (insW numQ (w0 :: r0) = (none : Option PN) → y.snd.snd = false)) ∧ (0 : Int) = y.fst.fst ∧ (0 : Int) = y.fst.snd.fst ∧ (0 : Int) = y.fst.snd.snd.fst ∧ (0 : Int) = y.fst.snd.snd.snd.fst ∧ (0 : Int) = y.fst.snd.snd.snd.snd ∧ Value.string (ByteArray.mk ([] : List UInt8).toArray) = Value.string y.snd.fst ∧ false = y.snd.snd ∧ True) ∧ ((!(numR y).snd) = false → ((-9223372036854775808 : Int) ≤ (↑x.fst : Int) + (1 : Int) ∧ (↑x.fst : Int) + (1 : Int) ≤ (9223372036854775807 : Int)) ∧ ∃ (y_2 : Nat × PN), I23 (idxI w0 nmL) (hasS (idxI w0 nmL)).data.toList (w0 :: r0).tail y_2.fst y_2.snd ∧ (hasS (idxI w0 nmL)).size - y_2.fst < (hasS (idxI w0 nmL)).size - x.fst ∧ w0 :: r0 ≍ w0 :: r0 ∧ idxI w0 nmL = idxI w0 nmL ∧ Value.string (hasS (idxI w0 nmL)) = Value.string (hasS (idxI w0 nmL)) ∧ Value.string x.snd.snd = Value.string y_2.snd.snd ∧ (↑x.fst : Int) + (1 : Int) = (↑y_2.fst : Int) ∧ (0 : Int) = (0 : Int) ∧ (0 : Int) = (0 : Int) ∧ (0 : Int) = (0 : Int) ∧ (0 : Int) = (0 : Int) ∧ (0 : Int) = (0 : Int) ∧ x.snd.fst.fst = y_2.snd.fst.fst ∧ x.snd.fst.snd.fst = y_2.snd.fst.snd.fst ∧ x.snd.fst.snd.snd.fst = y_2.snd.fst.snd.snd.fst ∧ x.snd.fst.snd.snd.snd.fst = y_2.snd.fst.snd.snd.snd.fst ∧ (numR y).fst = y_2.snd.fst.snd.snd.snd.snd ∧ True))) ∧ (((↑y_1.toNat : Int) == (73 : Int)) = false → (((↑y.size : Int) != (2 : Int)) = true → ∃ (y : Tup (pN :: pS :: pB :: ([] : List PS))), ((∀ (i : IN) (t : ByteArray), insW numQ (w0 :: r0) = some (i, t) → y = (i, t, true)) ∧ (insW numQ (w0 :: r0) = (none : Option PN) → y.snd.snd = false)) ∧ (0 : Int) = y.fst.fst ∧ (0 : Int) = y.fst.snd.fst ∧ (0 : Int) = y.fst.snd.snd.fst ∧ (0 : Int) = y.fst.snd.snd.snd.fst ∧ (0 : Int) = y.fst.snd.snd.snd.snd ∧ Value.string (ByteArray.mk ([] : List UInt8).toArray) = Value.string y.snd.fst ∧ false = y.snd.snd ∧ True) ∧ (((↑y.size : Int) != (2 : Int)) = false → ((0 : Int) ≤ (0 : Int) ∧ (0 : Int) < (↑y.size : Int)) ∧ ∀ (y_2 : UInt8), y[Int.toNat (0 : Int)]? = some y_2 → (((↑y_2.toNat : Int) != (114 : Int)) = true → ∃ (y : Tup (pN :: pS :: pB :: ([] : List PS))), ((∀ (i : IN) (t : ByteArray), insW numQ (w0 :: r0) = some (i, t) → y = (i, t, true)) ∧ (insW numQ (w0 :: r0) = (none : Option PN) → y.snd.snd = false)) ∧ (0 : Int) = y.fst.fst ∧ (0 : Int) = y.fst.snd.fst ∧ (0 : Int) = y.fst.snd.snd.fst ∧ (0 : Int) = y.fst.snd.snd.snd.fst ∧ (0 : Int) = y.fst.snd.snd.snd.snd ∧ Value.string (ByteArray.mk ([] : List UInt8).toArray) = Value.string y.snd.fst ∧ false = y.snd.snd ∧ True) ∧ (((↑y_2.toNat : Int) != (114 : Int)) = false → ((0 : Int) ≤ (1 : Int) ∧ (1 : Int) < (↑y.size : Int)) ∧ ∀ (y_3 : UInt8), y[Int.toNat (1 : Int)]? = some y_3 → (decide ((↑y_3.toNat : Int) < (48 : Int)) = true → ∃ (y : Tup (pN :: pS :: pB :: ([] : List PS))), ((∀ (i : IN) (t : ByteArray), insW numQ (w0 :: r0) = some (i, t) → y = (i, t, true)) ∧ (insW numQ (w0 :: r0) = (none : Option PN) → y.snd.snd = false)) ∧ (0 : Int) = y.fst.fst ∧ (0 : Int) = y.fst.snd.fst ∧ (0 : Int) = y.fst.snd.snd.fst ∧ (0 : Int) = y.fst.snd.snd.snd.fst ∧ (0 : Int) = y.fst.snd.snd.snd.snd ∧ Value.string (ByteArray.mk ([] : List UInt8).toArray) = Value.string y.snd.fst ∧ false = y.snd.snd ∧ True) ∧ (decide ((↑y_3.toNat : Int) < (48 : Int)) = false → ((0 : Int) ≤ (1 : Int) ∧ (1 : Int) < (↑y.size : Int)) ∧ ∀ (y_4 : UInt8), y[Int.toNat (1 : Int)]? = some y_4 → (decide ((↑y_4.toNat : Int) > (55 : Int)) = true → ∃ (y : Tup (pN :: pS :: pB :: ([] : List PS))), ((∀ (i : IN) (t : ByteArray), insW numQ (w0 :: r0) = some (i, t) → y = (i, t, true)) ∧ (insW numQ (w0 :: r0) = (none : Option PN) → y.snd.snd = false)) ∧ (0 : Int) = y.fst.fst ∧ (0 : Int) = y.fst.snd.fst ∧ (0 : Int) = y.fst.snd.snd.fst ∧ (0 : Int) = y.fst.snd.snd.snd.fst ∧ (0 : Int) = y.fst.snd.snd.snd.snd ∧ Value.string (ByteArray.mk ([] : List UInt8).toArray) = Value.string y.snd.fst ∧ false = y.snd.snd ∧ True) ∧ (decide ((↑y_4.toNat : Int) > (55 : Int)) = false → ((0 : Int) ≤ (1 : Int) ∧ (1 : Int) < (↑y.size : Int)) ∧ ∀ (y_5 : UInt8), y[Int.toNat (1 : Int)]? = some y_5 → ((0 : Int) ≤ (↑x.fst : Int) ∧ (↑x.fst : Int) < (↑(hasS (idxI w0 nmL)).size : Int)) ∧ ∀ (y : UInt8), (hasS (idxI w0 nmL))[(↑x.fst : Int).toNat]? = some y → (((↑y.toNat : Int) == (65 : Int)) = true → ((-9223372036854775808 : Int) ≤ (↑x.fst : Int) + (1 : Int) ∧ (↑x.fst : Int) + (1 : Int) ≤ (9223372036854775807 : Int)) ∧ ∃ (y : Nat × PN), I23 (idxI w0 nmL) (hasS (idxI w0 nmL)).data.toList (w0 :: r0).tail y.fst y.snd ∧ (hasS (idxI w0 nmL)).size - y.fst < (hasS (idxI w0 nmL)).size - x.fst ∧ w0 :: r0 ≍ w0 :: r0 ∧ idxI w0 nmL = idxI w0 nmL ∧ Value.string (hasS (idxI w0 nmL)) = Value.string (hasS (idxI w0 nmL)) ∧ Value.string x.snd.snd = Value.string y.snd.snd ∧ (↑x.fst : Int) + (1 : Int) = (↑y.fst : Int) ∧ (0 : Int) = (0 : Int) ∧ (0 : Int) = (0 : Int) ∧ (0 : Int) = (0 : Int) ∧ (0 : Int) = (0 : Int) ∧ (0 : Int) = (0 : Int) ∧ x.snd.fst.fst = y.snd.fst.fst ∧ IntKind.u8.wrap ((↑y_5.toNat : Int) - (48 : Int)) = y.snd.fst.snd.fst ∧ x.snd.fst.snd.snd.fst = y.snd.fst.snd.snd.fst ∧ x.snd.fst.snd.snd.snd.fst = y.snd.fst.snd.snd.snd.fst ∧ x.snd.fst.snd.snd.snd.snd = y.snd.fst.snd.snd.snd.snd ∧ True) ∧ (((↑y.toNat : Int) == (65 : Int)) = false → (((↑y.toNat : Int) == (66 : Int)) = true → ((-9223372036854775808 : Int) ≤ (↑x.fst : Int) + (1 : Int) ∧ (↑x.fst : Int) + (1 : Int) ≤ (9223372036854775807 : Int)) ∧ ∃ (y : Nat × PN), I23 (idxI w0 nmL) (hasS (idxI w0 nmL)).data.toList (w0 :: r0).tail y.fst y.snd ∧ (hasS (idxI w0 nmL)).size - y.fst < (hasS (idxI w0 nmL)).size - x.fst ∧ w0 :: r0 ≍ w0 :: r0 ∧ idxI w0 nmL = idxI w0 nmL ∧ Value.string (hasS (idxI w0 nmL)) = Value.string (hasS (idxI w0 nmL)) ∧ Value.string x.snd.snd = Value.string y.snd.snd ∧ (↑x.fst : Int) + (1 : Int) = (↑y.fst : Int) ∧ (0 : Int) = (0 : Int) ∧ (0 : Int) = (0 : Int) ∧ (0 : Int) = (0 : Int) ∧ (0 : Int) = (0 : Int) ∧ (0 : Int) = (0 : Int) ∧ x.snd.fst.fst = y.snd.fst.fst ∧ x.snd.fst.snd.fst = y.snd.fst.snd.fst ∧ IntKind.u8.wrap ((↑y_5.toNat : Int) - (48 : Int)) = y.snd.fst.snd.snd.fst ∧ x.snd.fst.snd.snd.snd.fst = y.snd.fst.snd.snd.snd.fst ∧ x.snd.fst.snd.snd.snd.snd = y.snd.fst.snd.snd.snd.snd ∧ True) ∧ (((↑y.toNat : Int) == (66 : Int)) = false → (((↑y.toNat : Int) == (67 : Int)) = true → ((-9223372036854775808 : Int) ≤ (↑x.fst : Int) + (1 : Int) ∧ (↑x.fst : Int) + (1 : Int) ≤ (9223372036854775807 : Int)) ∧ ∃ (y : Nat × PN), I23 (idxI w0 nmL) (hasS (idxI w0 nmL)).data.toList (w0 :: r0).tail y.fst y.snd ∧ (hasS (idxI w0 nmL)).size - y.fst < (hasS (idxI w0 nmL)).size - x.fst ∧ w0 :: r0 ≍ w0 :: r0 ∧ idxI w0 nmL = idxI w0 nmL ∧ Value.string (hasS (idxI w0 nmL)) = Value.string (hasS (idxI w0 nmL)) ∧ Value.string x.snd.snd = Value.string y.snd.snd ∧ (↑x.fst : Int) + (1 : Int) = (↑y.fst : Int) ∧ (0 : Int) = (0 : Int) ∧ (0 : Int) = (0 : Int) ∧ (0 : Int) = (0 : Int) ∧ (0 : Int) = (0 : Int) ∧ (0 : Int) = (0 : Int) ∧ x.snd.fst.fst = y.snd.fst.fst ∧ x.snd.fst.snd.fst = y.snd.fst.snd.fst ∧ x.snd.fst.snd.snd.fst = y.snd.fst.snd.snd.fst ∧ IntKind.u8.wrap ((↑y_5.toNat : Int) - (48 : Int)) = y.snd.fst.snd.snd.snd.fst ∧ x.snd.fst.snd.snd.snd.snd = y.snd.fst.snd.snd.snd.snd ∧ True) ∧ (((↑y.toNat : Int) == (67 : Int)) = false → ((-9223372036854775808 : Int) ≤ (↑x.fst : Int) + (1 : Int) ∧ (↑x.fst : Int) + (1 : Int) ≤ (9223372036854775807 : Int)) ∧ ∃ (y : Nat × PN), I23 (idxI w0 nmL) (hasS (idxI w0 nmL)).data.toList (w0 :: r0).tail y.fst y.snd ∧ (hasS (idxI w0 nmL)).size - y.fst < (hasS (idxI w0 nmL)).size - x.fst ∧ w0 :: r0 ≍ w0 :: r0 ∧ idxI w0 nmL = idxI w0 nmL ∧ Value.string (hasS (idxI w0 nmL)) = Value.string (hasS (idxI w0 nmL)) ∧ Value.string x.snd.snd = Value.string y.snd.snd ∧ (↑x.fst : Int) + (1 : Int) = (↑y.fst : Int) ∧ (0 : Int) = (0 : Int) ∧ (0 : Int) = (0 : Int) ∧ (0 : Int) = (0 : Int) ∧ (0 : Int) = (0 : Int) ∧ (0 : Int) = (0 : Int) ∧ x.snd.fst.fst = y.snd.fst.fst ∧ x.snd.fst.snd.fst = y.snd.fst.snd.fst ∧ x.snd.fst.snd.snd.fst = y.snd.fst.snd.snd.fst ∧ x.snd.fst.snd.snd.snd.fst = y.snd.fst.snd.snd.snd.fst ∧ x.snd.fst.snd.snd.snd.snd = y.snd.fst.snd.snd.snd.snd ∧ True))))))))) ∧ (decide ((↑x.fst : Int) < (↑(hasS (idxI w0 nmL)).size : Int)) = false → ∃ (y : Tup (pN :: pS :: pB :: ([] : List PS))), ((∀ (i : IN) (t : ByteArray), insW numQ (w0 :: r0) = some (i, t) → y = (i, t, true)) ∧ (insW numQ (w0 :: r0) = (none : Option PN) → y.snd.snd = false)) ∧ x.snd.fst.fst = y.fst.fst ∧ x.snd.fst.snd.fst = y.fst.snd.fst ∧ x.snd.fst.snd.snd.fst = y.fst.snd.snd.fst ∧ x.snd.fst.snd.snd.snd.fst = y.fst.snd.snd.snd.fst ∧ x.snd.fst.snd.snd.snd.snd = y.fst.snd.snd.snd.snd ∧ Value.string x.snd.snd = Value.string y.snd.fst ∧ goodF (x.snd.fst.fst, x.snd.fst.snd.fst, x.snd.fst.snd.snd.fst, x.snd.fst.snd.snd.snd.fst, x.snd.fst.snd.snd.snd.snd) = y.snd.snd ∧ True))))) = _) ?_
  have hgo := @insW_go numQ w0 r0
  have hlen := @insW_len numQ w0 r0
  have hall := idxTo_all w0
  have hnl : nmL.length = 23 := rfl
  refine ⟨⟨0, Nat.zero_le _, HEq.rfl, (idxTo_zero w0).symm, rfl, rfl, rfl, rfl, rfl, rfl, trivial⟩, fun x hx => ⟨fun h => ⟨⟨by omega, by simp⟩, fun y hy => ⟨by simp only [decide_eq_true_eq] at h; omega, fun y1 hy1 => ?_⟩⟩, fun h => ?_⟩⟩
  · obtain rfl : w0 = y := Option.some.inj hy
    rw [Int.toNat_natCast] at hy1
    simp only [decide_eq_true_eq] at h
    refine ⟨fun q => ⟨by omega, x + 1, by omega, by omega, HEq.rfl, ?_, by simp, rfl, rfl, rfl, rfl, rfl, trivial⟩, fun q => ⟨by omega, x + 1, by omega, by omega, HEq.rfl, ?_, by simp, rfl, rfl, rfl, rfl, rfl, trivial⟩⟩
    · have e := bytes_eq.1 q
      subst e
      exact (idxTo_hit hy1).symm
    · exact (idxTo_miss hy1 fun e => by rw [bytes_eq.2 e] at q; cases q).symm
  have hx : x = 23 := by simp only [decide_eq_false_iff_not] at h; omega
  subst hx
  rw [hall]
  clear h hall
  generalize hop : idxI w0 nmL = op
  rw [hop] at hgo hlen
  have hz := has_size op
  refine ⟨fun h => fail23 (hlen (by simp only [decide_eq_true_eq] at h; omega)), fun h => ⟨by omega, fun h2 => fail23 (hlen ?_), fun h2 => ?_⟩⟩
  · simp only [bne_iff_ne, ne_eq, List.length_cons] at h2; omega
  simp only [decide_eq_false_iff_not] at h
  simp only [bne_eq_false_iff_eq, List.length_cons] at h2
  have hrl : r0.length = (hasS op).size := by omega
  have hgo := hgo ⟨by omega, hrl⟩
  have hsl := size_list (hasS op)
  refine ⟨⟨(0, ((op, 0, 0, 0, 0), e0)), ⟨Nat.zero_le _, rfl, fun _ => ⟨rfl, rfl⟩⟩, HEq.rfl, rfl, rfl, rfl, rfl, rfl, rfl, rfl, rfl, rfl, rfl, rfl, rfl, rfl, rfl, trivial⟩, ?_⟩
  rintro ⟨k, ⟨⟨o, a, b, d, m⟩, t⟩⟩ hx
  have he := hx.e
  dsimp only at he ⊢
  rw [List.tail_cons] at he
  refine ⟨fun hk => ⟨by simp only [decide_eq_true_eq] at hk; omega, by simp only [decide_eq_true_eq] at hk; simp only [List.length_cons]; omega, fun y hy => ⟨by simp only [decide_eq_true_eq] at hk; omega, fun c hc => ?_⟩⟩, fun hk => ?_⟩
  · have hk : k < (hasS op).size := by simp only [decide_eq_true_eq] at hk; omega
    have hc := get_at hc
    have hc2 := has_byte (List.mem_of_getElem? hc)
    have hy' : r0[k]? = some y := by rw [show (1 + (k : Int)).toNat = k + 1 by omega] at hy; simpa using hy
    rw [goI_step hc hy'] at he
    obtain ⟨ht, hm⟩ := hx.n (by dsimp only; omega)
    dsimp only at ht hm
    subst ht hm
    have no : fldR numQ op c y ((o, a, b, d, 0), e0) = none → insW numQ (w0 :: r0) = none := fun e => by rw [hgo, he, e]; rfl
    have yes : ∀ x' : PN, fldR numQ op c y ((o, a, b, d, 0), e0) = some x' → (k + 1 < (hasS op).data.toList.length → x'.2 = e0 ∧ x'.1.2.2.2.2 = 0) → I23 op (hasS op).data.toList (w0 :: r0).tail (k + 1) x' := fun x' e e2 => ⟨by omega, by rw [List.tail_cons, he, e]; rfl, e2⟩
    have hjm : ((op == 17 || op == 18 || op == 19 || op == 20) && labF y) = (jmpF op && labF y) := by
      congr 1
      rw [jmpF, Bool.eq_iff_iff]
      simp only [Bool.or_eq_true, Bool.and_eq_true, beq_iff_eq, decide_eq_true_eq]
      omega
    rw [hjm]
    refine ⟨fun q => ?_, fun q => ⟨fun z => fail23 (no ?_), fun z => ?_⟩⟩
    · have hc73 : c = 73 := UInt8.toNat_inj.1 (by simp only [beq_iff_eq] at q; show c.toNat = 73; omega)
      subst hc73
      have hlast := has_last hc
      refine ⟨fun z => ⟨fun z2 => ⟨by omega, (k + 1, ((o, a, b, d, 0), y)), yes _ ?_ (fun q => by omega), by dsimp only; omega, HEq.rfl, rfl, rfl, rfl, by simp, rfl, rfl, rfl, rfl, rfl, rfl, rfl, rfl, rfl, rfl, trivial⟩, fun z2 => ⟨fun _ => fail23 (no ?_), fun z3 => absurd (z.symm.trans z3) (by decide)⟩⟩, fun z => ⟨fun z3 => absurd (z3.symm.trans z) (by decide), fun _ => ⟨by omega, (k + 1, ((o, a, b, d, (numR y).1), e0)), yes _ ?_ (fun q => by omega), by dsimp only; omega, HEq.rfl, rfl, rfl, rfl, by simp, rfl, rfl, rfl, rfl, rfl, rfl, rfl, rfl, rfl, rfl, trivial⟩⟩⟩
      · simp only [Bool.not_eq_true'] at z
        rw [fld73, numQ, if_neg (by rw [z]; decide)]
        exact if_pos z2
      · simp only [Bool.not_eq_true'] at z
        rw [fld73, numQ, if_neg (by rw [z]; decide)]
        exact if_neg (by rw [z2]; decide)
      · simp only [Bool.not_eq_false'] at z
        rw [fld73, numQ, if_pos z]
    · have hr : regW y = none := regW_len (by simp only [bne_iff_ne, ne_eq] at z; omega)
      rcases hc2 with rfl | rfl | rfl | rfl
      · rw [fld65, hr]; rfl
      · rw [fld66, hr]; rfl
      · rw [fld67, hr]; rfl
      · exact absurd q (by decide)
    have hsy : y.size = 2 := by simp only [bne_eq_false_iff_eq] at z; omega
    obtain ⟨c1, c2, hl⟩ : ∃ c1 c2, y.data.toList = [c1, c2] := by
      have := size_list y
      rw [hsy] at this
      match hl : y.data.toList, this with
      | [c1, c2], _ => exact ⟨c1, c2, rfl⟩
    have hw := regW_two hl
    have hr0 : ∀ z : UInt8, y[Int.toNat 0]? = some z → c1 = z := fun z hz => by
      have := get_at (k := 0) hz
      rw [hl] at this; exact Option.some.inj this
    have hr1 : ∀ z : UInt8, y[Int.toNat 1]? = some z → c2 = z := fun z hz => by
      have := get_at (k := 1) hz
      rw [hl] at this; exact Option.some.inj this
    have nor : regW y = none → insW numQ (w0 :: r0) = none := fun hr => no (by
      rcases hc2 with rfl | rfl | rfl | rfl
      · rw [fld65, hr]; rfl
      · rw [fld66, hr]; rfl
      · rw [fld67, hr]; rfl
      · exact absurd q (by decide))
    refine ⟨by omega, fun z1 hz1 => ?_⟩
    obtain rfl := hr0 z1 hz1
    refine ⟨fun p => fail23 (nor (by rw [hw, if_neg]; rintro ⟨rfl, _⟩; exact absurd p (by decide))), fun p => ⟨by omega, fun z2 hz2 => ?_⟩⟩
    obtain rfl := hr1 z2 hz2
    have hc114 : c1 = 114 := UInt8.toNat_inj.1 (by simp only [bne_eq_false_iff_eq] at p; show c1.toNat = 114; omega)
    refine ⟨fun p => fail23 (nor (by rw [hw, if_neg (by simp only [decide_eq_true_eq] at p; omega)])), fun p1 => ⟨by omega, fun z3 hz3 => ?_⟩⟩
    obtain rfl := hr1 z3 hz3
    refine ⟨fun p => fail23 (nor (by rw [hw, if_neg (by simp only [decide_eq_true_eq] at p; omega)])), fun p2 => ⟨by omega, fun z4 hz4 => ⟨by omega, fun z5 hz5 => ?_⟩⟩⟩
    obtain rfl := hr1 z4 hz4
    have hz5 := get_at hz5
    rw [hc] at hz5
    obtain rfl := Option.some.inj hz5
    have hn : regW y = some (IntKind.u8.wrap ((c2.toNat : Int) - 48)) := by
      simp only [decide_eq_false_iff_not] at p1 p2
      rw [hw, if_pos ⟨hc114, by omega, by omega⟩]
      congr 1
      rw [IntKind.wrap_u8]
      omega
    rcases hc2 with rfl | rfl | rfl | rfl
    · exact ⟨fun _ => ⟨by omega, (k + 1, ((o, _, b, d, 0), e0)), yes _ (by rw [fld65, hn]; rfl) fun _ => ⟨rfl, rfl⟩, by dsimp only; omega, HEq.rfl, rfl, rfl, rfl, by simp, rfl, rfl, rfl, rfl, rfl, rfl, rfl, rfl, rfl, rfl, trivial⟩, fun p => absurd p (by decide)⟩
    · exact ⟨fun p => absurd p (by decide), fun _ => ⟨fun _ => ⟨by omega, (k + 1, ((o, a, _, d, 0), e0)), yes _ (by rw [fld66, hn]; rfl) fun _ => ⟨rfl, rfl⟩, by dsimp only; omega, HEq.rfl, rfl, rfl, rfl, by simp, rfl, rfl, rfl, rfl, rfl, rfl, rfl, rfl, rfl, rfl, trivial⟩, fun p => absurd p (by decide)⟩⟩
    · exact ⟨fun p => absurd p (by decide), fun _ => ⟨fun p => absurd p (by decide), fun _ => ⟨fun _ => ⟨by omega, (k + 1, ((o, a, b, _, 0), e0)), yes _ (by rw [fld67, hn]; rfl) fun _ => ⟨rfl, rfl⟩, by dsimp only; omega, HEq.rfl, rfl, rfl, rfl, by simp, rfl, rfl, rfl, rfl, rfl, rfl, rfl, rfl, rfl, rfl, trivial⟩, fun p => absurd p (by decide)⟩⟩⟩
    · exact absurd q (by decide)
  · rw [goI_end (by omega) (by simp only [decide_eq_false_iff_not] at hk; omega)] at he
    refine ⟨((o, a, b, d, m), t, goodF (o, a, b, d, m)), ⟨fun i t' e => ?_, fun e => ?_⟩, rfl, rfl, rfl, rfl, rfl, rfl, rfl, trivial⟩
    · rw [hgo, he] at e
      cases hg : goodF (o, a, b, d, m) with
      | false => simp [hg] at e
      | true =>
        simp only [Option.bind_some, hg, if_true, Option.some.injEq, Prod.mk.injEq] at e
        obtain ⟨rfl, rfl⟩ := e
        rfl
    · rw [hgo, he] at e
      cases hg : goodF (o, a, b, d, m) with
      | false => rfl
      | true => simp [hg] at e
theorem num_PQ {w : ByteArray} {n : Int} (h : numQ w = some n) : numP w = some n := by
  rw [numQ] at h
  split at h
  case isFalse => cases h
  rename_i h2
  rw [numR] at h h2
  split at h2
  case h_2 => cases h2
  rename_i hs
  rw [hs] at h
  obtain ⟨r1, r2⟩ := read_num w
  rw [r1] at h2
  rw [numP, if_pos h2, ← r2 h2]
  exact h
theorem dec_size {n : Int} (h : immF n = true) : 1 ≤ (decB n).size ∧ (decB n).size ≤ 11 := by
  rw [immF, Bool.and_eq_true, decide_eq_true_eq, decide_eq_true_eq] at h
  have key : ∀ u : Nat, u < 10 ^ 10 → 1 ≤ (Lib.decDigits u).length ∧ (Lib.decDigits u).length ≤ 10 := fun u hu => by
    have h1 := digs_ne u
    have h2 : Lib.nDigits u ≤ 10 := nDigits_le (k := 9) hu
    rw [← Lib.decDigits_length] at h2
    refine ⟨?_, h2⟩
    cases hd : Lib.decDigits u with
    | nil => exact absurd hd h1
    | cons a r => simp
  rw [ba_size, decB_list]
  by_cases hn : n < 0
  · obtain ⟨u, rfl⟩ : ∃ u : Nat, n = -(u : Int) := ⟨n.natAbs, by omega⟩
    rw [Lib.itoa_neg u (by omega), List.length_cons]
    have := key u (by omega)
    omega
  · obtain ⟨u, rfl⟩ : ∃ u : Nat, n = (u : Int) := ⟨n.toNat, by omega⟩
    rw [Lib.itoa_nonneg]
    have := key u (by omega)
    omega
theorem num_im {w : ByteArray} {n : Int} (h : numP w = some n) (hn : immF n = true) : numQ w = some n := by
  rw [numP] at h
  split at h
  case isFalse => cases h
  rename_i h2
  have h3 := numB_ok h2
  obtain rfl : (numB w).1 = n := Option.some.inj h
  have hs := dec_size hn
  rw [← h3] at hs
  obtain ⟨r1, r2⟩ := read_num w
  have e : numR w = readB w := by rw [numR, decide_eq_true hs]
  rw [numQ, e, r1, if_pos h2, r2 h2]
theorem num_lab {w : ByteArray} {n : Int} (h : numP w = some n) : labF w = false := by
  rw [numP] at h
  split at h
  case isFalse => cases h
  rename_i h2
  have h3 := numB_ok h2
  have key : ∀ u : Nat, labL (Lib.decDigits u) = false := fun u => by
    cases hd : Lib.decDigits u with
    | nil => exact absurd hd (digs_ne u)
    | cons c r =>
      have := digs_all u c (by rw [hd]; simp)
      exact labL_not (k := 0) (y := c) rfl (by omega)
  have hl : labL w.data.toList = false := by
    rw [h3, decB_list]
    by_cases hn : (numB w).1 < 0
    · obtain ⟨u, hu⟩ : ∃ u : Nat, (numB w).1 = -(u : Int) := ⟨(numB w).1.natAbs, by omega⟩
      rw [hu, Lib.itoa_neg u (by omega)]
      exact labL_not (k := 0) (y := 45) rfl (by decide)
    · obtain ⟨u, hu⟩ : ∃ u : Nat, (numB w).1 = (u : Int) := ⟨(numB w).1.toNat, by omega⟩
      rw [hu, Lib.itoa_nonneg]
      exact key u
  rw [labF, hl, Bool.false_and]
def grd (x : PN) : Option PN := if goodF x.1 = true then some x else none
theorem grd_imm {op a b d m : Int} {t : ByteArray} (h73 : hasB op 73 = true) (hm : immF m = false) : grd ((op, a, b, d, m), t) = none := by
  have hg : goodF (op, a, b, d, m) = (isF op && regF a (hasB op 65) && regF b (hasB op 66) && regF d (hasB op 67) && (match hasB op 73 with | true => immF m && (decide (m ≥ 0) || !jmpF op) | false => m == 0)) := rfl
  rw [grd, hg, h73]
  dsimp only
  rw [hm, Bool.false_and, Bool.and_false]
  rfl
theorem goI_eq {op : Int} : ∀ (cs : List UInt8) (ws : List ByteArray) (x : PN), x.1.1 = op → (∀ c ∈ cs, c = 65 ∨ c = 66 ∨ c = 67 ∨ c = 73) → (∀ k : Nat, cs[k]? = some 73 → k + 1 = cs.length) → (73 ∈ cs → hasB op 73 = true) →
    (goI numP op cs ws x).bind grd = (goI numQ op cs ws x).bind grd
  | [], [], x, _, _, _, _ => rfl
  | [], _ :: _, x, _, _, _, _ => rfl
  | _ :: _, [], x, _, _, _, _ => rfl
  | c :: cs, w :: ws, ((o, a, b, d, m), t), ho, h1, h2, h3 => by
    have ho : o = op := ho
    subst ho
    have ih := fun (x' : PN) (e : x'.1.1 = o) => goI_eq (op := o) cs ws x' e (fun c hc => h1 c (by simp [hc])) (fun k hk => by have := h2 (k + 1) (by simpa using hk); simpa using this) (fun hc => h3 (by simp [hc]))
    rcases h1 c (by simp) with rfl | rfl | rfl | rfl
    · rw [goI, goI, fld65, fld65]
      cases regW w with
      | none => rfl
      | some n => exact ih _ rfl
    · rw [goI, goI, fld66, fld66]
      cases regW w with
      | none => rfl
      | some n => exact ih _ rfl
    · rw [goI, goI, fld67, fld67]
      cases regW w with
      | none => rfl
      | some n => exact ih _ rfl
    · have hl := h2 0 rfl
      have hcs : cs = [] := List.length_eq_zero_iff.1 (by simp only [List.length_cons] at hl; omega)
      subst hcs
      have h73 := h3 (by simp)
      rw [goI, goI, fld73, fld73]
      cases hQ : numQ w with
      | some n => rw [num_PQ hQ]; exact ih _ rfl
      | none =>
        cases hP : numP w with
        | none =>
          dsimp only
          split
          · exact ih _ rfl
          · rfl
        | some n =>
          have hm : immF n = false := by
            cases hi : immF n with
            | false => rfl
            | true => rw [num_im hP hi] at hQ; cases hQ
          dsimp only
          rw [num_lab hP, Bool.and_false]
          cases ws with
          | nil => exact grd_imm h73 hm
          | cons => rfl
theorem ins_eq (W : List ByteArray) : insW numP W = insW numQ W := by
  cases W with
  | nil => rfl
  | cons w r =>
    by_cases h : 0 ≤ idxI w nmL ∧ r.length = (hasS (idxI w nmL)).size
    · rw [insW_go h, insW_go h]
      refine goI_eq (op := idxI w nmL) _ _ _ rfl (fun c hc => has_byte hc) (fun k hk => has_last hk) (fun hc => ?_)
      rw [hasB, conB, decide_eq_true_eq]
      exact (con_iff _ _).2 hc
    · rw [insW_len h, insW_len h]
abbrev N16 : List (Nat × Spec) := (23, .pre (rS [pSs] [pN, pS, pB] pre23 rel23)) :: N15
theorem N16_all : ∀ p ∈ N16, Valid Tryz.prog p.1 p.2 := vcons v23 N15_all
theorem N16_ok : ∀ f S, spL N16 f = some S → Valid Tryz.prog f S := spL_ok N16_all
end Go.Proofs.YtnbbooilapelmaaGreatDoor.V

namespace Go.Proofs.YtnbbooilapelmaaGreatDoor.V
open Go.RowKit Go.Proofs.YtnbbooilapelmaaGreatDoor
set_option linter.unusedSimpArgs false
set_option pp.deepTerms true
set_option pp.maxSteps 200000
abbrev AS := List IN × List MN × List UN
def colB : ByteArray := ⟨#[58]⟩
abbrev fM (ms : List MN) (w : ByteArray) : Option Int := fndM .str (.int .i64) ms w
/-- A line's error. -/
def stepE (line : Int) (s : ByteArray) (x : AS) : Int := if s = e0 then 0 else if sufB s colB = true then (if labF (s.extract 0 (s.size - 1)) = true then (if (fM x.2.1 (s.extract 0 (s.size - 1))).isSome = true then 20 else 0) else 320) else (if (insW numP (wd s)).isSome = true then 0 else 320)
/-- What is behind a line. -/
def stepX (line : Int) (s : ByteArray) (x : AS) : AS := if s = e0 then x else if sufB s colB = true then (x.1, x.2.1 ++ [(s.extract 0 (s.size - 1), (x.1.length : Int))], x.2.2) else (match insW numP (wd s) with | some (i, t) => (x.1 ++ [i], x.2.1, x.2.2 ++ lbl x.1.length line t) | none => x)
def read1 : PT where
  ps := [.one (.p 0 0), .one Iy, .one (.d .str)]
  rg := bR
  na := 4
  rs := [.one Iy]
  out := [(0, .blk [.s 4, .m 2, .s 5] 53), (4, .own 40 shI), (2, .mp .str (.int .i64)), (5, .own 56 shUse)]
  nx := 6
  pre := fun (line, s, l, ms, us, _) => l.length ≤ 100000 ∧ us.length ≤ 100000 ∧ ByteArray.size s ≤ 1000000
  post := fun (line, s, l, ms, us, _) (e, l', ms', us', _) => e = stepE line s (l, ms, us) ∧ (e = 0 → (l', ms', us') = stepX line s (l, ms, us))
theorem putM_none {ms : List MN} {w : ByteArray} {v : Int} (h : fM ms w = none) : putM .str (.int .i64) ms w v = ms ++ [(w, v)] := by
  induction ms with
  | nil => rfl
  | cons p r ih =>
    change (if keyB .str p.1 w = true then some p.2 else fndM .str (.int .i64) r w) = none at h
    split at h
    · cases h
    · rename_i hb
      show (if keyB Sh.str p.1 w = true then (w, v) :: r else p :: putM .str (.int .i64) r w v) = _
      rw [if_neg hb, ih h]; rfl
theorem wd_ne (s : ByteArray) : wd s ≠ [] := fun e => cutL_ne _ (List.map_eq_nil_iff.1 e)
theorem cut_mem : ∀ {l : List UInt8} {w : List UInt8}, w ∈ cutL l → w.length ≤ l.length
  | [], w, h => by rw [cutL] at h; simp at h; subst h; simp
  | c :: r, w, h => by
    rw [cutL] at h
    split at h
    · rcases List.mem_cons.1 h with rfl | h
      · simp
      · have := cut_mem h; simp only [List.length_cons]; omega
    · split at h
      · rename_i w0 l0 e
        rcases List.mem_cons.1 h with rfl | h
        · have := cut_mem (l := r) (w := w0) (by rw [e]; simp)
          simp only [List.length_cons]; omega
        · have := cut_mem (l := r) (w := w) (by rw [e]; simp [h])
          simp only [List.length_cons]; omega
      · rename_i e; exact absurd e (cutL_ne _)
theorem wd_mem {s w : ByteArray} (h : w ∈ wd s) : w.size ≤ s.size := by
  obtain ⟨l, hl, rfl⟩ := List.mem_map.1 h
  rw [mkW_size, ← size_list]
  exact cut_mem hl
theorem fin20 {line : Int} {s : ByteArray} {l l' : List IN} {ms ms' : List MN} {us us' : List UN} {e : Int} (he : e = stepE line s (l, ms, us)) (hx : e = 0 → (l', ms', us') = stepX line s (l, ms, us)) :
    ∃ (x : Int) (x_1 : List IN) (x_2 : List MN) (x_3 : List UN), (e = x ∧ HEq l' x_1 ∧ HEq ms' x_2 ∧ HEq us' x_3 ∧ True) ∧ x = stepE line s (l, ms, us) ∧ (x = 0 → (x_1, x_2, x_3) = stepX line s (l, ms, us)) :=
  ⟨_, _, _, _, ⟨rfl, HEq.rfl, HEq.rfl, HEq.rfl, trivial⟩, he, hx⟩
theorem sufF_t {s c : ByteArray} (h : (sufF (s, c)).2 = true) : sufB s c = true ∧ (sufF (s, c)).1 = s.extract 0 (s.size - c.size) := by
  rw [sufF] at h ⊢
  dsimp only at h ⊢
  cases hb : sufB s c with
  | false => rw [hb] at h; cases h
  | true => exact ⟨rfl, rfl⟩
theorem sufF_f {s c : ByteArray} (h : (sufF (s, c)).2 = false) : ¬ sufB s c = true := by
  rw [sufF] at h
  dsimp only at h
  intro hb
  rw [hb] at h; cases h
theorem v20 : Valid Tryz.prog 20 (.full read1.call) := by
  refine valid_P mixed Tbl_ok N16_ok Tryz.func20 call20 ?_
  intro (line : Int) (s : ByteArray) (l : List IN) (ms : List MN) (us : List UN) hp hr hh
  obtain ⟨hl, hu, hs⟩ := hp
  refine ⟨noLoop, ?_⟩
  refine Eq.mp (by kernel_rfl : (((s.toList == (ByteArray.mk ([] : List UInt8).toArray).toList) = true → ∃ (x : Int), ∃ (x_1 : List (Int × Int × Int × Int × Int)), ∃ (x_2 : List (ByteArray × Int)), ∃ (x_3 : List (Int × Int × ByteArray)), ((0 : Int) = x ∧ l ≍ x_1 ∧ ms ≍ x_2 ∧ us ≍ x_3 ∧ True) ∧ x = stepE line s (l, ms, us) ∧ (x = (0 : Int) → (x_1, x_2, x_3) = stepX line s (l, ms, us))) ∧ ((s.toList == (ByteArray.mk ([] : List UInt8).toArray).toList) = false → ((sufF (s, ByteArray.mk ((58 : UInt8) :: ([] : List UInt8)).toArray)).snd = true → ((!labF (sufF (s, ByteArray.mk ((58 : UInt8) :: ([] : List UInt8)).toArray)).fst) = true → ∃ (x : Int), ∃ (x_1 : List (Int × Int × Int × Int × Int)), ∃ (x_2 : List (ByteArray × Int)), ∃ (x_3 : List (Int × Int × ByteArray)), ((320 : Int) = x ∧ l ≍ x_1 ∧ ms ≍ x_2 ∧ us ≍ x_3 ∧ True) ∧ x = stepE line s (l, ms, us) ∧ (x = (0 : Int) → (x_1, x_2, x_3) = stepX line s (l, ms, us))) ∧ ((!labF (sufF (s, ByteArray.mk ((58 : UInt8) :: ([] : List UInt8)).toArray)).fst) = false → (∀ (v : Int), fndM Sh.str (Sh.int IntKind.i64) ms (sufF (s, ByteArray.mk ((58 : UInt8) :: ([] : List UInt8)).toArray)).fst = some v → ∃ (x : Int), ∃ (x_1 : List (Int × Int × Int × Int × Int)), ∃ (x_2 : List (ByteArray × Int)), ∃ (x_3 : List (Int × Int × ByteArray)), ((20 : Int) = x ∧ l ≍ x_1 ∧ ms ≍ x_2 ∧ us ≍ x_3 ∧ True) ∧ x = stepE line s (l, ms, us) ∧ (x = (0 : Int) → (x_1, x_2, x_3) = stepX line s (l, ms, us))) ∧ (fndM Sh.str (Sh.int IntKind.i64) ms (sufF (s, ByteArray.mk ((58 : UInt8) :: ([] : List UInt8)).toArray)).fst = (none : Option Int) → ∃ (x : Int), ∃ (x_1 : List (Int × Int × Int × Int × Int)), ∃ (x_2 : List (ByteArray × Int)), ∃ (x_3 : List (Int × Int × ByteArray)), ((0 : Int) = x ∧ l ≍ x_1 ∧ putM Sh.str (Sh.int IntKind.i64) ms (sufF (s, ByteArray.mk ((58 : UInt8) :: ([] : List UInt8)).toArray)).fst (↑l.length : Int) ≍ x_2 ∧ us ≍ x_3 ∧ True) ∧ x = stepE line s (l, ms, us) ∧ (x = (0 : Int) → (x_1, x_2, x_3) = stepX line s (l, ms, us))))) ∧ ((sufF (s, ByteArray.mk ((58 : UInt8) :: ([] : List UInt8)).toArray)).snd = false → (ByteArray.mk ((32 : UInt8) :: ([] : List UInt8)).toArray = sp ∧ s.size ≤ (1000000 : Nat)) ∧ ∀ (y : Tup (pSs :: ([] : List PS))), y = wd s → (y ≠ ([] : List ByteArray) ∧ l.length ≤ (100000 : Nat) ∧ us.length ≤ (100000 : Nat) ∧ ∀ (w : ByteArray), w ∈ y → w.size ≤ (1000000 : Nat)) ∧ ∀ (x : Bool) (x_1 : List (Int × Int × Int × Int × Int)) (x_2 : List (ByteArray × Int)) (x_3 : List (Int × Int × ByteArray)), (x = (insW numP y).isSome ∧ x_2 = ms ∧ ∀ (i : IN) (t : ByteArray), insW numP y = some (i, t) → x_1 = l ++ i :: ([] : List IN) ∧ x_3 = us ++ lbl (↑l.length : Int) line t) → ((!x) = true → ∃ (x : Int), ∃ (x_4 : List (Int × Int × Int × Int × Int)), ∃ (x_5 : List (ByteArray × Int)), ∃ (x_6 : List (Int × Int × ByteArray)), ((320 : Int) = x ∧ x_1 ≍ x_4 ∧ x_2 ≍ x_5 ∧ x_3 ≍ x_6 ∧ True) ∧ x = stepE line s (l, ms, us) ∧ (x = (0 : Int) → (x_4, x_5, x_6) = stepX line s (l, ms, us))) ∧ ((!x) = false → ∃ (x : Int), ∃ (x_4 : List (Int × Int × Int × Int × Int)), ∃ (x_5 : List (ByteArray × Int)), ∃ (x_6 : List (Int × Int × ByteArray)), ((0 : Int) = x ∧ x_1 ≍ x_4 ∧ x_2 ≍ x_5 ∧ x_3 ≍ x_6 ∧ True) ∧ x = stepE line s (l, ms, us) ∧ (x = (0 : Int) → (x_4, x_5, x_6) = stepX line s (l, ms, us)))))) = _) ?_
  refine ⟨fun h => ?_, fun h => ⟨fun h2 => ?_, fun h2 => ⟨⟨rfl, hs⟩, fun y hy => ?_⟩⟩⟩
  · have e : s = e0 := bytes_eq.1 h
    exact fin20 (by rw [stepE, if_pos e]) fun _ => by rw [stepX, if_pos e]
  all_goals have hne : ¬ s = e0 := fun e => by rw [bytes_eq.2 e] at h; cases h
  · obtain ⟨k1, k2⟩ := sufF_t h2
    have k1 : sufB s colB = true := k1
    have k2 : (sufF (s, ⟨(58 :: ([] : List UInt8)).toArray⟩)).1 = s.extract 0 (s.size - 1) := k2
    rw [k2]
    refine ⟨fun h3 => fin20 ?_ fun e => (by cases e), fun h3 => ⟨fun v hv => fin20 ?_ fun e => (by cases e), fun hv => fin20 ?_ fun _ => ?_⟩⟩
    · rw [stepE, if_neg hne, if_pos k1, if_neg (by simpa using h3)]
    · rw [stepE, if_neg hne, if_pos k1, if_pos (by simpa using h3), if_pos (by show (fndM _ _ _ _).isSome = true; rw [hv]; rfl)]
    · rw [stepE, if_neg hne, if_pos k1, if_pos (by simpa using h3), if_neg (by show ¬ (fndM _ _ _ _).isSome = true; rw [hv]; decide)]
    · rw [stepX, if_neg hne, if_pos k1, putM_none hv]
  · have k1 : ¬ sufB s colB = true := sufF_f h2
    have hy : y = wd s := hy
    subst hy
    refine ⟨⟨wd_ne s, hl, hu, fun w hw => Nat.le_trans (wd_mem hw) hs⟩, fun x l' ms' us' hx => ?_⟩
    obtain ⟨x1, x2, x3⟩ := hx
    refine ⟨fun h3 => fin20 ?_ fun e => (by cases e), fun h3 => fin20 ?_ fun _ => ?_⟩
    · rw [stepE, if_neg hne, if_neg k1, if_neg (by rw [← x1]; simpa using h3)]
    · rw [stepE, if_neg hne, if_neg k1, if_pos (by rw [← x1]; simpa using h3)]
    · rw [stepX, if_neg hne, if_neg k1]
      cases hi : insW numP (wd s) with
      | none => rw [hi] at x1; subst x1; cases h3
      | some p =>
        obtain ⟨i, t⟩ := p
        obtain ⟨y1, y2⟩ := x3 i t hi
        rw [y1, y2, x2]
abbrev N17 : List (Nat × Spec) := (20, .full read1.call) :: N16
theorem N17_all : ∀ p ∈ N17, Valid Tryz.prog p.1 p.2 := vcons v20 N16_all
theorem N17_ok : ∀ f S, spL N17 f = some S → Valid Tryz.prog f S := spL_ok N17_all
def runA : Int → List ByteArray → AS → AS × Option (Int × Int)
  | _, [], x => (x, none)
  | i, s :: r, x => if stepE i s x = 0 then runA (i + 1) r (stepX i s x) else (x, some (i, stepE i s x))
def setM : IN → Int → IN := fun (o, a, b, d, _) v => (o, a, b, d, v)
def pat1 (ms : List MN) (l : List IN) (u : UN) : List IN := l.set u.1.toNat (setM (l.getD u.1.toNat zI) ((fM ms u.2.2).getD 0))
def patch (ms : List MN) (us : List UN) (l : List IN) : List IN := us.foldl (pat1 ms) l
def asmF (L : List ByteArray) : List IN × Int × Int :=
  match (runA 0 L ([], [], [])).2 with
  | some (i, e) => ([], i, e)
  | none => (match (runA 0 L ([], [], [])).1.2.2.find? fun u => (fM (runA 0 L ([], [], [])).1.2.1 u.2.2).isNone with
    | some u => ([], u.2.1, 20)
    | none => if (runA 0 L ([], [], [])).1.1.length > 4096 then ([], 0, 3) else (patch (runA 0 L ([], [], [])).1.2.1 (runA 0 L ([], [], [])).1.2.2 (runA 0 L ([], [], [])).1.1, 0, 0))
/-- What holds behind lines. -/
structure AOk (k : Nat) (x : AS) : Prop where
  l : x.1.length ≤ k
  u : x.2.2.length ≤ k
  m : ∀ p ∈ x.2.1, 0 ≤ p.2 ∧ p.2 ≤ 100000
  j : ∀ u ∈ x.2.2, 0 ≤ u.1 ∧ u.1 < (x.1.length : Int)
  n : x.2.1.length ≤ k
theorem AOk.zero : AOk 0 ([], [], []) := ⟨Nat.le_refl _, Nat.le_refl _, fun p hp => (by cases hp), fun u hu => (by cases hu), Nat.le_refl _⟩
theorem lbl_mem {n line : Int} {t : ByteArray} {u : UN} (h : u ∈ lbl n line t) : u = (n, line, t) := by
  unfold lbl at h
  split at h
  · cases h
  · simpa using h
theorem lbl_len (n line : Int) (t : ByteArray) : (lbl n line t).length ≤ 1 := by
  unfold lbl; split <;> simp
theorem AOk.step {k : Nat} {x : AS} (h : AOk k x) (hk : k ≤ 50000) (line : Int) (s : ByteArray) : AOk (k + 1) (stepX line s x) := by
  obtain ⟨l, ms, us⟩ := x
  have h1 := h.l; have h2 := h.u; have h3 := h.m; have h4 := h.j; have h5 := h.n
  dsimp only at h1 h2 h3 h4 h5
  rw [stepX]
  split
  · exact ⟨by dsimp only; omega, by dsimp only; omega, h3, h4, by dsimp only; omega⟩
  · split
    · refine ⟨by dsimp only; omega, by dsimp only; omega, fun p hp => ?_, h4, by dsimp only; simp only [List.length_append, List.length_singleton]; omega⟩
      rcases List.mem_append.1 hp with hp | hp
      · exact h3 p hp
      · have : p = (s.extract 0 (s.size - 1), (l.length : Int)) := by simpa using hp
        subst this
        dsimp only; omega
    · split
      · rename_i i t _
        have := lbl_len l.length line t
        refine ⟨by dsimp only; simp only [List.length_append, List.length_singleton]; omega, by dsimp only; simp only [List.length_append]; omega, h3, fun u hu => ?_, by dsimp only; omega⟩
        dsimp only
        simp only [List.length_append, List.length_singleton]
        rcases List.mem_append.1 hu with hu | hu
        · have := h4 u hu; omega
        · have := lbl_mem hu
          subst this
          dsimp only; omega
      · exact ⟨by dsimp only; omega, by dsimp only; omega, h3, h4, by dsimp only; omega⟩
abbrev aZ : AS := ([], [], [])
structure I10 (L : List ByteArray) (k : Nat) (x : AS) : Prop where
  kl : k ≤ L.length
  e : runA 0 L aZ = runA k (L.drop k) x
  a : AOk k x
theorem I10.next {L : List ByteArray} {k : Nat} {x : AS} {s : ByteArray} (h : I10 L k x) (hL : L.length ≤ 50000) (hs : L[k]? = some s) (he : stepE k s x = 0) : I10 L (k + 1) (stepX k s x) := by
  have hlt := (List.getElem?_eq_some_iff.1 hs).1
  refine ⟨hlt, ?_, h.a.step (by omega) _ _⟩
  rw [h.e, List.drop_eq_getElem_cons hlt]
  rw [List.getElem?_eq_getElem hlt] at hs
  rw [Option.some.inj hs, runA, if_pos he]
  rfl
theorem I10.bad {L : List ByteArray} {k : Nat} {x : AS} {s : ByteArray} (h : I10 L k x) (hs : L[k]? = some s) (he : stepE k s x ≠ 0) : asmF L = ([], (k : Int), stepE k s x) := by
  have hlt := (List.getElem?_eq_some_iff.1 hs).1
  have : (runA 0 L aZ).2 = some ((k : Int), stepE k s x) := by
    rw [h.e, List.drop_eq_getElem_cons hlt]
    rw [List.getElem?_eq_getElem hlt] at hs
    rw [Option.some.inj hs, runA, if_neg he]
  rw [asmF, this]
theorem I10.fin {L : List ByteArray} {k : Nat} {x : AS} (h : I10 L k x) (hk : L.length ≤ k) : runA 0 L aZ = (x, none) := by
  rw [h.e, List.drop_eq_nil_iff.2 hk, runA]
def asmE (A : AS) : List IN × Int × Int := match A.2.2.find? fun u => (fM A.2.1 u.2.2).isNone with
    | some u => ([], u.2.1, 20)
    | none => if A.1.length > 4096 then ([], 0, 3) else (patch A.2.1 A.2.2 A.1, 0, 0)
theorem asmF_end {L : List ByteArray} {A : AS} (h : runA 0 L aZ = (A, none)) : asmF L = asmE A := by
  rw [asmF, h]; rfl
structure J10 (L : List ByteArray) (A : AS) (k : Nat) : Prop where
  r : runA 0 L aZ = (A, none)
  o : AOk 50000 A
  kl : k ≤ A.2.2.length
  f : (A.2.2.take k).find? (fun u => (fM A.2.1 u.2.2).isNone) = none
theorem patch_len (ms : List MN) (us : List UN) (l : List IN) : (patch ms us l).length = l.length := by
  induction us generalizing l with
  | nil => rfl
  | cons j r ih => show (patch ms r (pat1 ms l j)).length = _; rw [ih]; simp [pat1]
theorem patch_succ {ms : List MN} {us : List UN} {l : List IN} {k : Nat} {u : UN} (h : us[k]? = some u) : patch ms (us.take (k + 1)) l = pat1 ms (patch ms (us.take k) l) u := by
  rw [List.take_add_one, h]; simp [patch]
theorem find_bad {A : AS} {k : Nat} {u : UN} (hf : (A.2.2.take k).find? (fun u => (fM A.2.1 u.2.2).isNone) = none) (hu : A.2.2[k]? = some u) (hn : fM A.2.1 u.2.2 = none) : asmE A = ([], u.2.1, 20) := by
  have hlt := (List.getElem?_eq_some_iff.1 hu).1
  have e : A.2.2 = A.2.2.take k ++ u :: A.2.2.drop (k + 1) := by
    conv => lhs; rw [← List.take_append_drop k A.2.2]
    congr 1
    rw [List.drop_eq_getElem_cons hlt]
    rw [List.getElem?_eq_getElem hlt] at hu
    rw [Option.some.inj hu]
  have : A.2.2.find? (fun u => (fM A.2.1 u.2.2).isNone) = some u := by
    rw [e, List.find?_append, hf, List.find?_cons, hn]; rfl
  rw [asmE, this]
theorem find_go {A : AS} {k : Nat} {u : UN} {v : Int} (hf : (A.2.2.take k).find? (fun u => (fM A.2.1 u.2.2).isNone) = none) (hu : A.2.2[k]? = some u) (hn : fM A.2.1 u.2.2 = some v) : (A.2.2.take (k + 1)).find? (fun u => (fM A.2.1 u.2.2).isNone) = none := by
  rw [List.take_add_one, hu, List.find?_append, hf]
  simp [hn]
theorem asmE_end {A : AS} {k : Nat} (hk : A.2.2.length ≤ k) (hf : (A.2.2.take k).find? (fun u => (fM A.2.1 u.2.2).isNone) = none) : asmE A = if A.1.length > 4096 then ([], 0, 3) else (patch A.2.1 A.2.2 A.1, 0, 0) := by
  rw [List.take_of_length_le hk] at hf
  rw [asmE, hf]
theorem fM_range {A : AS} {w : ByteArray} {v : Int} (h : AOk 50000 A) (hv : fM A.2.1 w = some v) : 0 ≤ v ∧ v ≤ 100000 := by
  have key : ∀ ms : List MN, fM ms w = some v → ∃ p ∈ ms, p.2 = v := by
    intro ms
    induction ms with
    | nil => intro h; cases h
    | cons p r ih =>
      intro h
      change (if keyB .str p.1 w = true then some p.2 else fndM .str (.int .i64) r w) = some v at h
      split at h
      · exact ⟨p, by simp, Option.some.inj h⟩
      · obtain ⟨q, hq, e⟩ := ih h; exact ⟨q, by simp [hq], e⟩
  obtain ⟨p, hp, rfl⟩ := key _ hv
  exact h.m p hp
abbrev hA (A : AS) (l : List IN) : List (Nat × Ck) := [(0, .blk [.sl 1, .mv 2, .sl 3] 53), (1, .own 40 shI l), (2, .mp .str (.int .i64) A.2.1), (3, .own 56 shUse A.2.2)]
abbrev lp10 (L : List ByteArray) : Nat → Option LoopSp := fun r => match r with
  | 3 => some { X := Nat × AS, sl := fun x => [(5, .one (.ptr 0 0)), (16, .one (.rd .str L)), (17, .one (vi L.length)), (18, .one (vi x.1))], h := fun x => hA x.2 x.2.1, nx := 4, inv := fun x => I10 L x.1 x.2, mu := fun x => L.length - x.1 }
  | 10 => some { X := AS × Nat, sl := fun x => [(5, .one (.ptr 0 0)), (35, .one (.sl 3)), (36, .one (vi x.1.2.2.length)), (37, .one (vi x.2))], h := fun x => hA x.1 (patch x.1.2.1 (x.1.2.2.take x.2) x.1.1), nx := 4, inv := fun x => J10 L x.1 x.2, mu := fun x => x.1.2.2.length - x.2 }
  | _ => none
abbrev asmR : List ByteArray → (List IN × Int × Int) → Prop := fun L y => y = asmF L
abbrev asmP : List ByteArray → Prop := fun L => List.length L ≤ 50000 ∧ ∀ s ∈ L, ByteArray.size s ≤ 1000000
theorem v10 : Valid Tryz.prog 10 (.pre (rS [pSs] [pNs, pI, pI] asmP asmR)) := by
  refine rS_ok mixed Tbl_ok N17_ok Tryz.func10 call10 rfl ?_
  intro (L : List ByteArray) hr hp
  refine ⟨lp10 L, ?_⟩
  refine Eq.mp (by kernel_rfl : ((∃ (x : Nat × AS), I10 L x.fst x.snd ∧ L ≍ L ∧ (↑L.length : Int) = (↑L.length : Int) ∧ (0 : Int) = (↑x.fst : Int) ∧ x.snd.fst = ([] : List (Int × Int × Int × Int × Int)) ∧ ([] : List (ByteArray × Int)) ≍ x.snd.snd.fst ∧ x.snd.snd.snd = ([] : List (Int × Int × ByteArray)) ∧ True) ∧ ∀ (x : Nat × AS), I10 L x.fst x.snd → (decide ((↑x.fst : Int) < (↑L.length : Int)) = true → ((0 : Int) ≤ (↑x.fst : Int) ∧ (↑x.fst : Int) < (↑L.length : Int)) ∧ ∀ (y : ByteArray), L[(↑x.fst : Int).toNat]? = some y → (x.snd.fst.length ≤ (100000 : Nat) ∧ x.snd.snd.snd.length ≤ (100000 : Nat) ∧ y.size ≤ (1000000 : Nat)) ∧ ∀ (x_1 : Int) (x_2 : List (Int × Int × Int × Int × Int)) (x_3 : List (ByteArray × Int)) (x_4 : List (Int × Int × ByteArray)), x_1 = stepE (↑x.fst : Int) y (x.snd.fst, x.snd.snd.fst, x.snd.snd.snd) ∧ (x_1 = (0 : Int) → (x_2, x_3, x_4) = stepX (↑x.fst : Int) y (x.snd.fst, x.snd.snd.fst, x.snd.snd.snd)) → ((x_1 != (0 : Int)) = true → ∃ (y : Tup (pNs :: pI :: pI :: ([] : List PS))), y = asmF L ∧ y.fst = ([] : List (Int × Int × Int × Int × Int)) ∧ (↑x.fst : Int) = y.snd.fst ∧ x_1 = y.snd.snd ∧ True) ∧ ((x_1 != (0 : Int)) = false → ((-9223372036854775808 : Int) ≤ (↑x.fst : Int) + (1 : Int) ∧ (↑x.fst : Int) + (1 : Int) ≤ (9223372036854775807 : Int)) ∧ ∃ (y : Nat × AS), I10 L y.fst y.snd ∧ L.length - y.fst < L.length - x.fst ∧ L ≍ L ∧ (↑L.length : Int) = (↑L.length : Int) ∧ (↑x.fst : Int) + (1 : Int) = (↑y.fst : Int) ∧ x_2 ≍ y.snd.fst ∧ x_3 ≍ y.snd.snd.fst ∧ x_4 ≍ y.snd.snd.snd ∧ True)) ∧ (decide ((↑x.fst : Int) < (↑L.length : Int)) = false → (∃ (x_1 : AS × Nat), J10 L x_1.fst x_1.snd ∧ (↑x.snd.snd.snd.length : Int) = (↑x_1.fst.snd.snd.length : Int) ∧ (0 : Int) = (↑x_1.snd : Int) ∧ x.snd.fst ≍ patch x_1.fst.snd.fst (List.take x_1.snd x_1.fst.snd.snd) x_1.fst.fst ∧ x.snd.snd.fst ≍ x_1.fst.snd.fst ∧ x.snd.snd.snd ≍ x_1.fst.snd.snd ∧ True) ∧ ∀ (x : AS × Nat), J10 L x.fst x.snd → (decide ((↑x.snd : Int) < (↑x.fst.snd.snd.length : Int)) = true → ((0 : Int) ≤ (↑x.snd : Int) ∧ (↑x.snd : Int) < (↑x.fst.snd.snd.length : Int)) ∧ (↑x.snd : Int).toNat < x.fst.snd.snd.length ∧ ∀ (y : Int × Int × ByteArray), x.fst.snd.snd[(↑x.snd : Int).toNat]? = some y → (∀ (v : Int), fndM Sh.str (Sh.int IntKind.i64) x.fst.snd.fst y.snd.snd = some v → ((0 : Int) ≤ y.fst ∧ y.fst < (↑(patch x.fst.snd.fst (List.take x.snd x.fst.snd.snd) x.fst.fst).length : Int)) ∧ y.fst.toNat < (patch x.fst.snd.fst (List.take x.snd x.fst.snd.snd) x.fst.fst).length ∧ ∀ (z : Int × Int × Int × Int × Int), (patch x.fst.snd.fst (List.take x.snd x.fst.snd.snd) x.fst.fst)[y.fst.toNat]? = some z → ((-9223372036854775808 : Int) ≤ (↑x.snd : Int) + (1 : Int) ∧ (↑x.snd : Int) + (1 : Int) ≤ (9223372036854775807 : Int)) ∧ ∃ (y_1 : AS × Nat), J10 L y_1.fst y_1.snd ∧ y_1.fst.snd.snd.length - y_1.snd < x.fst.snd.snd.length - x.snd ∧ (↑x.fst.snd.snd.length : Int) = (↑y_1.fst.snd.snd.length : Int) ∧ (↑x.snd : Int) + (1 : Int) = (↑y_1.snd : Int) ∧ (patch x.fst.snd.fst (List.take x.snd x.fst.snd.snd) x.fst.fst).set y.fst.toNat (z.fst, z.snd.fst, z.snd.snd.fst, z.snd.snd.snd.fst, v) ≍ patch y_1.fst.snd.fst (List.take y_1.snd y_1.fst.snd.snd) y_1.fst.fst ∧ x.fst.snd.fst ≍ y_1.fst.snd.fst ∧ x.fst.snd.snd ≍ y_1.fst.snd.snd ∧ True) ∧ (fndM Sh.str (Sh.int IntKind.i64) x.fst.snd.fst y.snd.snd = (none : Option Int) → ∃ (y_1 : Tup (pNs :: pI :: pI :: ([] : List PS))), y_1 = asmF L ∧ y_1.fst = ([] : List (Int × Int × Int × Int × Int)) ∧ y.snd.fst = y_1.snd.fst ∧ (20 : Int) = y_1.snd.snd ∧ True)) ∧ (decide ((↑x.snd : Int) < (↑x.fst.snd.snd.length : Int)) = false → (decide ((↑(patch x.fst.snd.fst (List.take x.snd x.fst.snd.snd) x.fst.fst).length : Int) > (4096 : Int)) = true → ∃ (y : Tup (pNs :: pI :: pI :: ([] : List PS))), y = asmF L ∧ y.fst = ([] : List (Int × Int × Int × Int × Int)) ∧ (0 : Int) = y.snd.fst ∧ (3 : Int) = y.snd.snd ∧ True) ∧ (decide ((↑(patch x.fst.snd.fst (List.take x.snd x.fst.snd.snd) x.fst.fst).length : Int) > (4096 : Int)) = false → ∃ (y : Tup (pNs :: pI :: pI :: ([] : List PS))), y = asmF L ∧ patch x.fst.snd.fst (List.take x.snd x.fst.snd.snd) x.fst.fst ≍ y.fst ∧ (0 : Int) = y.snd.fst ∧ (0 : Int) = y.snd.snd ∧ True)))) = _) ?_
  obtain ⟨hL, hs⟩ := hp
  have hL : L.length ≤ 50000 := hL
  refine ⟨⟨(0, aZ), ⟨Nat.zero_le _, rfl, AOk.zero⟩, HEq.rfl, rfl, rfl, rfl, HEq.rfl, rfl, trivial⟩, ?_⟩
  rintro ⟨k, ⟨l, ms, us⟩⟩ hx
  have hkl : k ≤ L.length := hx.kl
  have hl : l.length ≤ k := hx.a.l
  have hu : us.length ≤ k := hx.a.u
  dsimp only
  refine ⟨fun hk => ⟨by simp only [decide_eq_true_eq] at hk; omega, fun y hy => ?_⟩, fun hk => ?_⟩
  · rw [Int.toNat_natCast] at hy
    refine ⟨⟨by omega, by omega, hs y (List.mem_of_getElem? hy)⟩, fun e l' ms' us' he => ?_⟩
    obtain ⟨he, hx'⟩ := he
    refine ⟨fun h => ⟨_, rfl, ?_⟩, fun h => ⟨by omega, (k + 1, stepX k y (l, ms, us)), hx.next hL hy ?_, ?_, HEq.rfl, rfl, by simp, ?_⟩⟩
    · rw [hx.bad hy (by rw [← he]; simpa using h), he]
      exact ⟨rfl, rfl, rfl, trivial⟩
    · rw [← he]; simpa using h
    · have := (List.getElem?_eq_some_iff.1 hy).1
      dsimp only; omega
    · have := hx' (by simpa using h)
      rw [← this]
      exact ⟨HEq.rfl, HEq.rfl, HEq.rfl, trivial⟩
  have hk : L.length ≤ k := by simp only [decide_eq_false_iff_not] at hk; omega
  have hfin := hx.fin hk
  have hn : ms.length ≤ k := hx.a.n
  have hok : AOk 50000 (l, ms, us) := ⟨by dsimp only; omega, by dsimp only; omega, hx.a.m, hx.a.j, by dsimp only; omega⟩
  refine ⟨⟨((l, ms, us), 0), ⟨hfin, hok, Nat.zero_le _, rfl⟩, rfl, rfl, HEq.rfl, HEq.rfl, HEq.rfl, trivial⟩, ?_⟩
  clear hx hl hu hok hk hkl hfin hn
  rintro ⟨⟨l, ms, us⟩, k⟩ hx
  have hkl : k ≤ us.length := hx.kl
  have hf := hx.f
  have hF := asmF_end hx.r
  have hul : us.length ≤ 50000 := hx.o.u
  dsimp only at hf ⊢
  refine ⟨fun hk => ⟨by simp only [decide_eq_true_eq] at hk; omega, by simp only [decide_eq_true_eq] at hk; omega, fun y hy => ⟨fun v hv => ?_, fun hv => ⟨_, rfl, ?_⟩⟩⟩, fun hk => ?_⟩
  · rw [Int.toNat_natCast] at hy
    have hj := hx.o.j y (List.mem_of_getElem? hy)
    dsimp only at hj
    have hpl := patch_len ms (us.take k) l
    refine ⟨by omega, by omega, fun z hz => ⟨by omega, ((l, ms, us), k + 1), ⟨hx.r, hx.o, (List.getElem?_eq_some_iff.1 hy).1, find_go (A := (l, ms, us)) hf hy hv⟩, ?_, rfl, by simp, heq_of_eq ?_, HEq.rfl, HEq.rfl, trivial⟩⟩
    · have := (List.getElem?_eq_some_iff.1 hy).1
      dsimp only; omega
    · dsimp only
      rw [patch_succ hy, pat1, List.getD_eq_getElem?_getD, hz]
      have hv' : (fM ms y.2.2).getD 0 = v := by rw [show fM ms y.2.2 = some v from hv]; rfl
      rw [hv']
      rfl
  · rw [Int.toNat_natCast] at hy
    rw [hF, find_bad (A := (l, ms, us)) hf hy hv]
    exact ⟨rfl, rfl, rfl, trivial⟩
  · have hk : us.length ≤ k := by simp only [decide_eq_false_iff_not] at hk; omega
    have e := asmE_end (A := (l, ms, us)) hk hf
    dsimp only at e
    have ht : us.take k = us := List.take_of_length_le hk
    rw [ht, patch_len, hF, e]
    refine ⟨fun h => ⟨_, rfl, ?_⟩, fun h => ⟨_, rfl, ?_⟩⟩
    · rw [if_pos (by simp only [decide_eq_true_eq] at h; omega)]; exact ⟨rfl, rfl, rfl, trivial⟩
    · rw [if_neg (by simp only [decide_eq_false_iff_not] at h; omega)]; exact ⟨HEq.rfl, rfl, rfl, trivial⟩
abbrev asmS : Spec := .pre (rS [pSs] [pNs, pI, pI] asmP asmR)
abbrev N18 : List (Nat × Spec) := (10, asmS) :: N17
theorem N18_all : ∀ p ∈ N18, Valid Tryz.prog p.1 p.2 := vcons v10 N17_all
theorem N18_ok : ∀ f S, spL N18 f = some S → Valid Tryz.prog f S := spL_ok N18_all
end Go.Proofs.YtnbbooilapelmaaGreatDoor.V

namespace Go.Proofs.YtnbbooilapelmaaGreatDoor.V
open Go.RowKit Go.Proofs.YtnbbooilapelmaaGreatDoor
set_option linter.unusedSimpArgs false
set_option pp.deepTerms true
set_option pp.maxSteps 200000
def jmS (us : List UN) : List MN := us.map fun u => (u.2.2, u.1)
def frS (us : List UN) : List Int := us.map fun u => u.2.1
abbrev hR (A : AS) (l : List IN) : List (Nat × Ck) := [(0, .own 40 shI l), (1, .own 63 shM A.2.1), (2, .own 63 shM (jmS A.2.2)), (3, .own 3 (.int .i64) (frS A.2.2))]
abbrev lp11 (L : List ByteArray) : Nat → Option LoopSp := fun r => match r with
  | 5 => some { X := Nat × AS, sl := fun x => [(0, .one (.rd .str L)), (5, .one (.sl 0)), (6, .one (.sl 1)), (7, .one (.sl 2)), (8, .one (.sl 3)), (9, .one (vi x.1))], h := fun x => hR x.2 x.2.1, nx := 4, inv := fun x => I10 L x.1 x.2, mu := fun x => L.length - x.1 }
  | 24 => some { X := AS × Nat, sl := fun x => [(5, .one (.sl 0)), (6, .one (.sl 1)), (7, .one (.sl 2)), (8, .one (.sl 3)), (15, .one (vi x.2))], h := fun x => hR x.1 (patch x.1.2.1 (x.1.2.2.take x.2) x.1.1), nx := 4, inv := fun x => J10 L x.1 x.2, mu := fun x => x.1.2.2.length - x.2 }
  | _ => none
theorem findF_ge {A : AS} {k : Nat} (h : AOk k A) (w : ByteArray) : (fM A.2.1 w = none ∧ findF A.2.1 w = -1) ∨ ∃ v, fM A.2.1 w = some v ∧ findF A.2.1 w = v ∧ 0 ≤ v := by
  cases hv : fM A.2.1 w with
  | none => refine .inl ⟨rfl, ?_⟩; rw [findF, show fndM .str (.int .i64) A.2.1 w = none from hv]; rfl
  | some v =>
    refine .inr ⟨v, rfl, ?_, ?_⟩
    · rw [findF, show fndM .str (.int .i64) A.2.1 w = some v from hv]; rfl
    · have key : ∀ ms : List MN, fM ms w = some v → ∃ p ∈ ms, p.2 = v := by
        intro ms
        induction ms with
        | nil => intro h; cases h
        | cons p r ih =>
          intro h
          change (if keyB .str p.1 w = true then some p.2 else fndM .str (.int .i64) r w) = some v at h
          split at h
          · exact ⟨p, by simp, Option.some.inj h⟩
          · obtain ⟨q, hq, e⟩ := ih h; exact ⟨q, by simp [hq], e⟩
      obtain ⟨p, hp, rfl⟩ := key _ hv
      exact (h.m p hp).1
theorem col_iff {s : ByteArray} {y : UInt8} (hs : 1 ≤ s.size) (hy : s.data.toList[s.size - 1]? = some y) : sufB s colB = decide (y = 58) := by
  have hc : colB.size = 1 := rfl
  have e : s.extract (s.size - 1) s.size = mkW [y] := by
    rw [extract_eq]
    congr 1
    have hl := size_list s
    have hlt := (List.getElem?_eq_some_iff.1 hy).1
    rw [List.drop_eq_getElem_cons hlt]
    rw [List.getElem?_eq_getElem hlt] at hy
    rw [Option.some.inj hy, List.drop_eq_nil_iff.2 (by omega), show s.size - (s.size - 1) = 1 by omega]; rfl
  rw [sufB, hc, decide_eq_true hs, Bool.true_and, e]
  rw [Bool.eq_iff_iff, decide_eq_true_eq, decide_eq_true_eq]
  constructor
  · intro h
    have := congrArg (fun s => (ByteArray.data s).toList) h
    simpa [mkW, colB] using this
  · rintro rfl; rfl
theorem err11 {L : List ByteArray} {k : Nat} {x : AS} {s : ByteArray} {c : Int} (h : I10 L k x) (hs : L[k]? = some s) (he : stepE k s x = c) (hc : c ≠ 0) :
    ∃ y, y = asmF L ∧ y.1 = ([] : List IN) ∧ (k : Int) = y.2.1 ∧ c = y.2.2 ∧ True := by
  have := h.bad hs (by rw [he]; exact hc)
  exact ⟨_, rfl, by rw [this], by rw [this], by rw [this, he], trivial⟩
theorem jmS_app (us vs : List UN) : jmS (us ++ vs) = jmS us ++ jmS vs := by simp [jmS]
theorem frS_app (us vs : List UN) : frS (us ++ vs) = frS us ++ frS vs := by simp [frS]
theorem v11 : Valid Tryz.prog 11 (.pre (rS [pSs] [pNs, pI, pI] asmP asmR)) := by
  refine rS_ok mixed Tbl_ok N18_ok Tryz.func11 call11 rfl ?_
  intro (L : List ByteArray) hr hp
  refine ⟨lp11 L, ?_⟩
  refine Eq.mp (by kernel_rfl : ((∃ (x : Nat × AS), I10 L x.fst x.snd ∧ L ≍ L ∧ (0 : Int) = (↑x.fst : Int) ∧ x.snd.fst = ([] : List (Int × Int × Int × Int × Int)) ∧ x.snd.snd.fst = ([] : List (ByteArray × Int)) ∧ jmS x.snd.snd.snd = ([] : List (ByteArray × Int)) ∧ frS x.snd.snd.snd = ([] : List Int) ∧ True) ∧ ∀ (x : Nat × AS), I10 L x.fst x.snd → (decide ((↑x.fst : Int) < (↑L.length : Int)) = true → ((0 : Int) ≤ (↑x.fst : Int) ∧ (↑x.fst : Int) < (↑L.length : Int)) ∧ ∀ (y : ByteArray), L[(↑x.fst : Int).toNat]? = some y → ((y.toList == (ByteArray.mk ([] : List UInt8).toArray).toList) = true → ((-9223372036854775808 : Int) ≤ (↑x.fst : Int) + (1 : Int) ∧ (↑x.fst : Int) + (1 : Int) ≤ (9223372036854775807 : Int)) ∧ ∃ (y : Nat × AS), I10 L y.fst y.snd ∧ L.length - y.fst < L.length - x.fst ∧ L ≍ L ∧ (↑x.fst : Int) + (1 : Int) = (↑y.fst : Int) ∧ x.snd.fst ≍ y.snd.fst ∧ x.snd.snd.fst ≍ y.snd.snd.fst ∧ jmS x.snd.snd.snd ≍ jmS y.snd.snd.snd ∧ frS x.snd.snd.snd ≍ frS y.snd.snd.snd ∧ True) ∧ ((y.toList == (ByteArray.mk ([] : List UInt8).toArray).toList) = false → ((-9223372036854775808 : Int) ≤ (↑y.size : Int) - (1 : Int) ∧ (↑y.size : Int) - (1 : Int) ≤ (9223372036854775807 : Int)) ∧ ((0 : Int) ≤ (↑y.size : Int) - (1 : Int) ∧ (↑y.size : Int) - (1 : Int) < (↑y.size : Int)) ∧ ∀ (y_1 : UInt8), y[((↑y.size : Int) - (1 : Int)).toNat]? = some y_1 → (((↑y_1.toNat : Int) == (58 : Int)) = true → ((-9223372036854775808 : Int) ≤ (↑y.size : Int) - (1 : Int) ∧ (↑y.size : Int) - (1 : Int) ≤ (9223372036854775807 : Int)) ∧ ((0 : Int) ≤ (↑y.size : Int) - (1 : Int) ∧ (↑y.size : Int) - (1 : Int) ≤ (↑y.size : Int)) ∧ ((!labF (y.extract (0 : Nat) ((0 : Nat) + ((↑y.size : Int) - (1 : Int)).toNat))) = true → ∃ (y : Tup (pNs :: pI :: pI :: ([] : List PS))), y = asmF L ∧ y.fst = ([] : List (Int × Int × Int × Int × Int)) ∧ (↑x.fst : Int) = y.snd.fst ∧ (320 : Int) = y.snd.snd ∧ True) ∧ ((!labF (y.extract (0 : Nat) ((0 : Nat) + ((↑y.size : Int) - (1 : Int)).toNat))) = false → (decide (findF x.snd.snd.fst (y.extract (0 : Nat) ((0 : Nat) + ((↑y.size : Int) - (1 : Int)).toNat)) ≥ (0 : Int)) = true → ∃ (y : Tup (pNs :: pI :: pI :: ([] : List PS))), y = asmF L ∧ y.fst = ([] : List (Int × Int × Int × Int × Int)) ∧ (↑x.fst : Int) = y.snd.fst ∧ (20 : Int) = y.snd.snd ∧ True) ∧ (decide (findF x.snd.snd.fst (y.extract (0 : Nat) ((0 : Nat) + ((↑y.size : Int) - (1 : Int)).toNat)) ≥ (0 : Int)) = false → (x.snd.snd.fst.length + ((y.extract (0 : Nat) ((0 : Nat) + ((↑y.size : Int) - (1 : Int)).toNat), (↑x.snd.fst.length : Int)) :: ([] : List (ByteArray × Int))).length) * (24 : Nat) ≤ (140737488355328 : Nat) ∧ ((-9223372036854775808 : Int) ≤ (↑x.fst : Int) + (1 : Int) ∧ (↑x.fst : Int) + (1 : Int) ≤ (9223372036854775807 : Int)) ∧ ∃ (y_2 : Nat × AS), I10 L y_2.fst y_2.snd ∧ L.length - y_2.fst < L.length - x.fst ∧ L ≍ L ∧ (↑x.fst : Int) + (1 : Int) = (↑y_2.fst : Int) ∧ x.snd.fst ≍ y_2.snd.fst ∧ x.snd.snd.fst ++ (y.extract (0 : Nat) ((0 : Nat) + ((↑y.size : Int) - (1 : Int)).toNat), (↑x.snd.fst.length : Int)) :: ([] : List (ByteArray × Int)) ≍ y_2.snd.snd.fst ∧ jmS x.snd.snd.snd ≍ jmS y_2.snd.snd.snd ∧ frS x.snd.snd.snd ≍ frS y_2.snd.snd.snd ∧ True))) ∧ (((↑y_1.toNat : Int) == (58 : Int)) = false → y.size ≤ (1000000 : Nat) ∧ ∀ (y_2 : Tup (pSs :: ([] : List PS))), y_2 = wd y → (y_2 = ([] : List ByteArray) → False) ∧ ∀ (y : Tup (pN :: pS :: pB :: ([] : List PS))), (∀ (i : IN) (t : ByteArray), insW numQ y_2 = some (i, t) → y = (i, t, true)) ∧ (insW numQ y_2 = (none : Option PN) → y.snd.snd = false) → ((!y.snd.snd) = true → ∃ (y : Tup (pNs :: pI :: pI :: ([] : List PS))), y = asmF L ∧ y.fst = ([] : List (Int × Int × Int × Int × Int)) ∧ (↑x.fst : Int) = y.snd.fst ∧ (320 : Int) = y.snd.snd ∧ True) ∧ ((!y.snd.snd) = false → ((!y.snd.fst.toList == (ByteArray.mk ([] : List UInt8).toArray).toList) = true → ((jmS x.snd.snd.snd).length + ((y.snd.fst, (↑x.snd.fst.length : Int)) :: ([] : List (ByteArray × Int))).length) * (24 : Nat) ≤ (140737488355328 : Nat) ∧ ((frS x.snd.snd.snd).length + ((↑x.fst : Int) :: ([] : List Int)).length) * (8 : Nat) ≤ (140737488355328 : Nat) ∧ (x.snd.fst.length + ((y.fst.fst, y.fst.snd.fst, y.fst.snd.snd.fst, y.fst.snd.snd.snd.fst, y.fst.snd.snd.snd.snd) :: ([] : List (Int × Int × Int × Int × Int))).length) * (40 : Nat) ≤ (140737488355328 : Nat) ∧ ((-9223372036854775808 : Int) ≤ (↑x.fst : Int) + (1 : Int) ∧ (↑x.fst : Int) + (1 : Int) ≤ (9223372036854775807 : Int)) ∧ ∃ (y_3 : Nat × AS), I10 L y_3.fst y_3.snd ∧ L.length - y_3.fst < L.length - x.fst ∧ L ≍ L ∧ (↑x.fst : Int) + (1 : Int) = (↑y_3.fst : Int) ∧ x.snd.fst ++ (y.fst.fst, y.fst.snd.fst, y.fst.snd.snd.fst, y.fst.snd.snd.snd.fst, y.fst.snd.snd.snd.snd) :: ([] : List (Int × Int × Int × Int × Int)) ≍ y_3.snd.fst ∧ x.snd.snd.fst ≍ y_3.snd.snd.fst ∧ jmS x.snd.snd.snd ++ (y.snd.fst, (↑x.snd.fst.length : Int)) :: ([] : List (ByteArray × Int)) ≍ jmS y_3.snd.snd.snd ∧ frS x.snd.snd.snd ++ (↑x.fst : Int) :: ([] : List Int) ≍ frS y_3.snd.snd.snd ∧ True) ∧ ((!y.snd.fst.toList == (ByteArray.mk ([] : List UInt8).toArray).toList) = false → (x.snd.fst.length + ((y.fst.fst, y.fst.snd.fst, y.fst.snd.snd.fst, y.fst.snd.snd.snd.fst, y.fst.snd.snd.snd.snd) :: ([] : List (Int × Int × Int × Int × Int))).length) * (40 : Nat) ≤ (140737488355328 : Nat) ∧ ((-9223372036854775808 : Int) ≤ (↑x.fst : Int) + (1 : Int) ∧ (↑x.fst : Int) + (1 : Int) ≤ (9223372036854775807 : Int)) ∧ ∃ (y_3 : Nat × AS), I10 L y_3.fst y_3.snd ∧ L.length - y_3.fst < L.length - x.fst ∧ L ≍ L ∧ (↑x.fst : Int) + (1 : Int) = (↑y_3.fst : Int) ∧ x.snd.fst ++ (y.fst.fst, y.fst.snd.fst, y.fst.snd.snd.fst, y.fst.snd.snd.snd.fst, y.fst.snd.snd.snd.snd) :: ([] : List (Int × Int × Int × Int × Int)) ≍ y_3.snd.fst ∧ x.snd.snd.fst ≍ y_3.snd.snd.fst ∧ jmS x.snd.snd.snd ≍ jmS y_3.snd.snd.snd ∧ frS x.snd.snd.snd ≍ frS y_3.snd.snd.snd ∧ True))))) ∧ (decide ((↑x.fst : Int) < (↑L.length : Int)) = false → (∃ (x_1 : AS × Nat), J10 L x_1.fst x_1.snd ∧ (0 : Int) = (↑x_1.snd : Int) ∧ x.snd.fst ≍ patch x_1.fst.snd.fst (List.take x_1.snd x_1.fst.snd.snd) x_1.fst.fst ∧ x.snd.snd.fst ≍ x_1.fst.snd.fst ∧ jmS x.snd.snd.snd ≍ jmS x_1.fst.snd.snd ∧ frS x.snd.snd.snd ≍ frS x_1.fst.snd.snd ∧ True) ∧ ∀ (x : AS × Nat), J10 L x.fst x.snd → (decide ((↑x.snd : Int) < (↑(jmS x.fst.snd.snd).length : Int)) = true → ((0 : Int) ≤ (↑x.snd : Int) ∧ (↑x.snd : Int) < (↑(jmS x.fst.snd.snd).length : Int)) ∧ (↑x.snd : Int).toNat < (jmS x.fst.snd.snd).length ∧ ∀ (y : ByteArray × Int), (jmS x.fst.snd.snd)[(↑x.snd : Int).toNat]? = some y → (decide (findF x.fst.snd.fst y.fst < (0 : Int)) = true → ((0 : Int) ≤ (↑x.snd : Int) ∧ (↑x.snd : Int) < (↑(frS x.fst.snd.snd).length : Int)) ∧ (↑x.snd : Int).toNat < (frS x.fst.snd.snd).length ∧ ∀ (y : Int), (frS x.fst.snd.snd)[(↑x.snd : Int).toNat]? = some y → ∃ (y_1 : Tup (pNs :: pI :: pI :: ([] : List PS))), y_1 = asmF L ∧ y_1.fst = ([] : List (Int × Int × Int × Int × Int)) ∧ y = y_1.snd.fst ∧ (20 : Int) = y_1.snd.snd ∧ True) ∧ (decide (findF x.fst.snd.fst y.fst < (0 : Int)) = false → ((0 : Int) ≤ (↑x.snd : Int) ∧ (↑x.snd : Int) < (↑(jmS x.fst.snd.snd).length : Int)) ∧ (↑x.snd : Int).toNat < (jmS x.fst.snd.snd).length ∧ ∀ (y_1 : ByteArray × Int), (jmS x.fst.snd.snd)[(↑x.snd : Int).toNat]? = some y_1 → ((0 : Int) ≤ y_1.snd ∧ y_1.snd < (↑(patch x.fst.snd.fst (List.take x.snd x.fst.snd.snd) x.fst.fst).length : Int)) ∧ y_1.snd.toNat < (patch x.fst.snd.fst (List.take x.snd x.fst.snd.snd) x.fst.fst).length ∧ ∀ (z : Int × Int × Int × Int × Int), (patch x.fst.snd.fst (List.take x.snd x.fst.snd.snd) x.fst.fst)[y_1.snd.toNat]? = some z → ((-9223372036854775808 : Int) ≤ (↑x.snd : Int) + (1 : Int) ∧ (↑x.snd : Int) + (1 : Int) ≤ (9223372036854775807 : Int)) ∧ ∃ (y_2 : AS × Nat), J10 L y_2.fst y_2.snd ∧ y_2.fst.snd.snd.length - y_2.snd < x.fst.snd.snd.length - x.snd ∧ (↑x.snd : Int) + (1 : Int) = (↑y_2.snd : Int) ∧ (patch x.fst.snd.fst (List.take x.snd x.fst.snd.snd) x.fst.fst).set y_1.snd.toNat (z.fst, z.snd.fst, z.snd.snd.fst, z.snd.snd.snd.fst, findF x.fst.snd.fst y.fst) ≍ patch y_2.fst.snd.fst (List.take y_2.snd y_2.fst.snd.snd) y_2.fst.fst ∧ x.fst.snd.fst ≍ y_2.fst.snd.fst ∧ jmS x.fst.snd.snd ≍ jmS y_2.fst.snd.snd ∧ frS x.fst.snd.snd ≍ frS y_2.fst.snd.snd ∧ True)) ∧ (decide ((↑x.snd : Int) < (↑(jmS x.fst.snd.snd).length : Int)) = false → (decide ((↑(patch x.fst.snd.fst (List.take x.snd x.fst.snd.snd) x.fst.fst).length : Int) > (4096 : Int)) = true → ∃ (y : Tup (pNs :: pI :: pI :: ([] : List PS))), y = asmF L ∧ y.fst = ([] : List (Int × Int × Int × Int × Int)) ∧ (0 : Int) = y.snd.fst ∧ (3 : Int) = y.snd.snd ∧ True) ∧ (decide ((↑(patch x.fst.snd.fst (List.take x.snd x.fst.snd.snd) x.fst.fst).length : Int) > (4096 : Int)) = false → ∃ (y : Tup (pNs :: pI :: pI :: ([] : List PS))), y = asmF L ∧ patch x.fst.snd.fst (List.take x.snd x.fst.snd.snd) x.fst.fst ≍ y.fst ∧ (0 : Int) = y.snd.fst ∧ (0 : Int) = y.snd.snd ∧ True)))) = _) ?_
  obtain ⟨hL, hs⟩ := hp
  have hL : L.length ≤ 50000 := hL
  refine ⟨⟨(0, aZ), ⟨Nat.zero_le _, rfl, AOk.zero⟩, HEq.rfl, rfl, rfl, rfl, rfl, rfl, trivial⟩, ?_⟩
  rintro ⟨k, ⟨l, ms, us⟩⟩ hx
  have hkl : k ≤ L.length := hx.kl
  have hl : l.length ≤ k := hx.a.l
  have hu : us.length ≤ k := hx.a.u
  have hn : ms.length ≤ k := hx.a.n
  have hjl : (jmS us).length = us.length := by simp [jmS]
  have hfl : (frS us).length = us.length := by simp [frS]
  dsimp only
  refine ⟨fun hk => ⟨by simp only [decide_eq_true_eq] at hk; omega, fun y hy => ?_⟩, fun hk => ?_⟩
  · rw [Int.toNat_natCast] at hy
    have hlt := (List.getElem?_eq_some_iff.1 hy).1
    have hsy : y.size ≤ 1000000 := hs y (List.mem_of_getElem? hy)
    refine ⟨fun h => ?_, fun h => ?_⟩
    · have e : y = e0 := bytes_eq.1 h
      have e2 : stepX k y (l, ms, us) = (l, ms, us) := by rw [stepX, if_pos e]
      have hn := hx.next hL hy (by rw [stepE, if_pos e])
      rw [e2] at hn
      exact ⟨by omega, (k + 1, (l, ms, us)), hn, by dsimp only; omega, HEq.rfl, by simp, HEq.rfl, HEq.rfl, HEq.rfl, HEq.rfl, trivial⟩
    have hne : ¬ y = e0 := fun e => by rw [bytes_eq.2 e] at h; cases h
    have hs1 : 1 ≤ y.size := by
      rcases Nat.eq_zero_or_pos y.size with h0 | h0
      · exfalso
        apply hne
        have h1 : y.data = #[] := Array.eq_empty_of_size_eq_zero h0
        cases y; simp_all
      · exact h0
    refine ⟨by omega, by omega, fun c hc => ?_⟩
    have hc' : y.data.toList[y.size - 1]? = some c := by
      have : ((y.size : Int) - 1).toNat = y.size - 1 := by omega
      rw [this] at hc
      exact (get_list _ _ _).1 hc
    have hcol := col_iff hs1 hc'
    rw [show 0 + ((y.size : Int) - 1).toNat = y.size - 1 by omega]
    refine ⟨fun q => ⟨by omega, by omega, ?_⟩, fun q => ⟨hsy, fun W hW => ?_⟩⟩
    · have h58 : c = 58 := UInt8.toNat_inj.1 (by simp only [beq_iff_eq] at q; show c.toNat = 58; omega)
      rw [decide_eq_true h58] at hcol
      have hE : stepE k y (l, ms, us) = if labF (y.extract 0 (y.size - 1)) = true then (if (fM ms (y.extract 0 (y.size - 1))).isSome = true then 20 else 0) else 320 := by rw [stepE, if_neg hne, if_pos hcol]
      refine ⟨fun z => err11 hx hy (by rw [hE, if_neg (by simpa using z)]) (by decide), fun z => ?_⟩
      rw [if_pos (by simpa using z)] at hE
      have hX : stepX k y (l, ms, us) = (l, ms ++ [(y.extract 0 (y.size - 1), (l.length : Int))], us) := by rw [stepX, if_neg hne, if_pos hcol]
      rcases findF_ge hx.a (y.extract 0 (y.size - 1)) with ⟨f1, f2⟩ | ⟨v, f1, f2, f3⟩
      · have f1 : fM ms (y.extract 0 (y.size - 1)) = none := f1
        have f2 : findF ms (y.extract 0 (y.size - 1)) = -1 := f2
        rw [f2]
        rw [f1] at hE
        have hn := hx.next hL hy (by rw [hE]; rfl)
        rw [hX] at hn
        exact ⟨fun z => absurd z (by decide), fun _ => ⟨by simp only [List.length_singleton]; omega, by omega, (k + 1, (l, ms ++ [(y.extract 0 (y.size - 1), (l.length : Int))], us)), hn, by dsimp only; omega, HEq.rfl, by simp, HEq.rfl, HEq.rfl, HEq.rfl, HEq.rfl, trivial⟩⟩
      · have f1 : fM ms (y.extract 0 (y.size - 1)) = some v := f1
        have f2 : findF ms (y.extract 0 (y.size - 1)) = v := f2
        rw [f2]
        rw [f1] at hE
        exact ⟨fun _ => err11 hx hy (by rw [hE]; rfl) (by decide), fun z => by simp only [decide_eq_false_iff_not] at z; omega⟩
    · have h58 : ¬ c = 58 := fun e => by subst e; exact absurd q (by decide)
      rw [decide_eq_false h58] at hcol
      have hcol : ¬ sufB y colB = true := by rw [hcol]; decide
      have hW : W = wd y := hW
      subst hW
      refine ⟨fun e => wd_ne y e, fun R hR => ?_⟩
      obtain ⟨r1, r2⟩ := hR
      have hE : stepE k y (l, ms, us) = if (insW numP (wd y)).isSome = true then 0 else 320 := by rw [stepE, if_neg hne, if_neg hcol]
      have hX : stepX k y (l, ms, us) = (match insW numP (wd y) with | some (i, t) => (l ++ [i], ms, us ++ lbl l.length k t) | none => (l, ms, us)) := by rw [stepX, if_neg hne, if_neg hcol] <;> (cases insW numP (wd y) <;> rfl)
      rw [ins_eq] at hE hX
      cases hi : insW numQ (wd y) with
      | none =>
        rw [hi] at hE
        have := r2 hi
        rw [this]
        exact ⟨fun _ => err11 hx hy (by rw [hE]; rfl) (by decide), fun z => absurd z (by decide)⟩
      | some p =>
        obtain ⟨i, t⟩ := p
        rw [hi] at hE hX
        have := r1 i t hi
        subst this
        have hn := hx.next hL hy (by rw [hE]; rfl)
        rw [hX] at hn
        dsimp only at hn ⊢
        refine ⟨fun z => absurd z (by decide), fun _ => ⟨fun z => ?_, fun z => ?_⟩⟩
        · have ht : t ≠ e0 := fun e => by rw [bytes_eq.2 e] at z; cases z
          have hlb : lbl l.length k t = [((l.length : Int), (k : Int), t)] := if_neg ht
          rw [hlb] at hn
          refine ⟨by simp only [List.length_singleton]; omega, by simp only [List.length_singleton]; omega, by simp only [List.length_singleton]; omega, by omega, (k + 1, (l ++ [i], ms, us ++ [((l.length : Int), (k : Int), t)])), hn, by dsimp only; omega, HEq.rfl, by simp, HEq.rfl, HEq.rfl, heq_of_eq ?_, heq_of_eq ?_, trivial⟩
          · rw [jmS_app]; rfl
          · rw [frS_app]; rfl
        · have ht : t = e0 := bytes_eq.1 (by simpa using z)
          have hlb : lbl l.length k t = [] := if_pos ht
          rw [hlb, List.append_nil] at hn
          exact ⟨by simp only [List.length_singleton]; omega, by omega, (k + 1, (l ++ [i], ms, us)), hn, by dsimp only; omega, HEq.rfl, by simp, HEq.rfl, HEq.rfl, HEq.rfl, HEq.rfl, trivial⟩
  have hk : L.length ≤ k := by simp only [decide_eq_false_iff_not] at hk; omega
  have hfin := hx.fin hk
  have hok : AOk 50000 (l, ms, us) := ⟨by dsimp only; omega, by dsimp only; omega, hx.a.m, hx.a.j, by dsimp only; omega⟩
  refine ⟨⟨((l, ms, us), 0), ⟨hfin, hok, Nat.zero_le _, rfl⟩, rfl, HEq.rfl, HEq.rfl, HEq.rfl, HEq.rfl, trivial⟩, ?_⟩
  clear hx hl hu hok hk hkl hfin hn hjl hfl
  rintro ⟨⟨l, ms, us⟩, k⟩ hx
  have hkl : k ≤ us.length := hx.kl
  have hf := hx.f
  have hF := asmF_end hx.r
  have hul : us.length ≤ 50000 := hx.o.u
  have hjl : (jmS us).length = us.length := by simp [jmS]
  have hfl : (frS us).length = us.length := by simp [frS]
  dsimp only at hf ⊢
  rw [hjl, hfl]
  refine ⟨fun hk => ⟨by simp only [decide_eq_true_eq] at hk; omega, by simp only [decide_eq_true_eq] at hk; omega, fun q hq => ?_⟩, fun hk => ?_⟩
  · have hk : k < us.length := by simp only [decide_eq_true_eq] at hk; omega
    rw [Int.toNat_natCast] at hq
    obtain ⟨y, hy⟩ : ∃ y, us[k]? = some y := ⟨_, List.getElem?_eq_getElem hk⟩
    have hq2 : (jmS us)[k]? = some (y.2.2, y.1) := by rw [jmS, List.getElem?_map, hy]; rfl
    rw [hq2] at hq
    cases hq
    dsimp only
    have hj := hx.o.j y (List.mem_of_getElem? hy)
    dsimp only at hj
    have hpl := patch_len ms (us.take k) l
    rcases findF_ge hx.o y.2.2 with ⟨f1, f2⟩ | ⟨v, f1, f2, f3⟩
    · have f1 : fM ms y.2.2 = none := f1
      have f2 : findF ms y.2.2 = -1 := f2
      rw [f2]
      refine ⟨fun _ => ⟨by omega, by omega, fun z hz => ⟨_, rfl, ?_⟩⟩, fun z => absurd z (by decide)⟩
      rw [Int.toNat_natCast, frS, List.getElem?_map, hy] at hz
      cases hz
      rw [hF, find_bad (A := (l, ms, us)) hf hy f1]
      exact ⟨rfl, rfl, rfl, trivial⟩
    · have f1 : fM ms y.2.2 = some v := f1
      have f2 : findF ms y.2.2 = v := f2
      rw [f2]
      refine ⟨fun z => by simp only [decide_eq_true_eq] at z; omega, fun _ => ⟨by omega, by omega, fun q2 hq3 => ?_⟩⟩
      rw [Int.toNat_natCast, hq2] at hq3
      cases hq3
      dsimp only
      refine ⟨by omega, by omega, fun z hz => ⟨by omega, ((l, ms, us), k + 1), ⟨hx.r, hx.o, hk, find_go (A := (l, ms, us)) hf hy f1⟩, by dsimp only; omega, by simp, heq_of_eq ?_, HEq.rfl, HEq.rfl, HEq.rfl, trivial⟩⟩
      dsimp only
      rw [patch_succ hy, pat1, List.getD_eq_getElem?_getD, hz, f1]
      rfl
  · have hk : us.length ≤ k := by simp only [decide_eq_false_iff_not] at hk; omega
    have e := asmE_end (A := (l, ms, us)) hk hf
    dsimp only at e
    have ht : us.take k = us := List.take_of_length_le hk
    rw [ht, patch_len, hF, e]
    refine ⟨fun h => ⟨_, rfl, ?_⟩, fun h => ⟨_, rfl, ?_⟩⟩
    · rw [if_pos (by simp only [decide_eq_true_eq] at h; omega)]; exact ⟨rfl, rfl, rfl, trivial⟩
    · rw [if_neg (by simp only [decide_eq_false_iff_not] at h; omega)]; exact ⟨HEq.rfl, rfl, rfl, trivial⟩
abbrev N19 : List (Nat × Spec) := (11, asmS) :: N18
theorem N19_all : ∀ p ∈ N19, Valid Tryz.prog p.1 p.2 := vcons v11 N18_all
theorem N19_ok : ∀ f S, spL N19 f = some S → Valid Tryz.prog f S := spL_ok N19_all
end Go.Proofs.YtnbbooilapelmaaGreatDoor.V

namespace Go.Proofs.YtnbbooilapelmaaGreatDoor.V
open Go.RowKit Go.Proofs.YtnbbooilapelmaaGreatDoor
set_option linter.unusedSimpArgs false
set_option pp.deepTerms true
set_option pp.maxSteps 200000
theorem dec2 {d e : Nat} (h : d < 10) (h0 : 0 < d) (he : e < 10) : decB ((d * 10 + e : Nat) : Int) = mkW [UInt8.ofNat (48 + d), UInt8.ofNat (48 + e)] := by
  rw [decB_u, Lib.decDigits, dif_neg (by omega), show (d * 10 + e) / 10 = d by omega, show (d * 10 + e) % 10 = e by omega, Lib.decDigits_one h]; rfl
theorem num_m5 : numP (mkW [45, 53]) = some (-5) := by
  have e : mkW [45, 53] = decB (-5) := by
    apply ba_ext
    rw [decB_list, mkW_list, show (-5 : Int) = -((5 : Nat) : Int) from rfl, Lib.itoa_neg 5 (by decide), Lib.decDigits_one (by decide)]
    rfl
  rw [e, numP, numB_dec (by decide) (by decide)]; rfl
theorem num_none {w : ByteArray} (h : labF w = true) : numP w = none := by
  cases hn : numP w with
  | none => rfl
  | some n => rw [num_lab hn] at h; cases h
theorem guard_t {x : PN} (h : goodF x.1 = true) : (some x : Option PN).bind (fun x => if goodF x.1 = true then some x else none) = some x := by
  rw [Option.bind_some, if_pos h]
def l1 : ByteArray := ⟨#[108, 105, 32, 114, 49, 32, 45, 53]⟩
def l2 : ByteArray := ⟨#[108, 111, 111, 112, 58]⟩
def l3 : ByteArray := ⟨#[98, 101, 113, 32, 114, 49, 32, 114, 50, 32, 108, 111, 111, 112]⟩
def l5 : ByteArray := ⟨#[104, 97, 108, 116]⟩
def l6 : ByteArray := ⟨#[110, 111, 112]⟩
def l7 : ByteArray := ⟨#[106, 109, 112, 32, 110, 111, 119, 104, 101, 114, 101]⟩
set_option maxRecDepth 4000 in
theorem wl1 : insW numP (wd l1) = some ((1, 1, 0, 0, -5), e0) := by
  have hw : wd l1 = [mkW [108, 105], mkW [114, 49], mkW [45, 53]] := rfl
  have hi : idxI (mkW [108, 105]) nmL = 1 := by decide
  have hh : (hasS 1).data.toList = [65, 73] := by decide
  rw [hw, insW_go (by rw [hi]; decide), hi, hh, goI, fld65, show regW (mkW [114, 49]) = some 1 from by decide, Option.map_some, Option.bind_some, goI, fld73, num_m5]
  exact guard_t (by decide)
set_option maxRecDepth 4000 in
theorem wl3 : insW numP (wd l3) = some ((18, 1, 2, 0, 0), mkW [108, 111, 111, 112]) := by
  have hw : wd l3 = [mkW [98, 101, 113], mkW [114, 49], mkW [114, 50], mkW [108, 111, 111, 112]] := rfl
  have hi : idxI (mkW [98, 101, 113]) nmL = 18 := by decide
  have hh : (hasS 18).data.toList = [65, 66, 73] := by decide
  rw [hw, insW_go (by rw [hi]; decide), hi, hh, goI, fld65, show regW (mkW [114, 49]) = some 1 from by decide, Option.map_some, Option.bind_some, goI, fld66, show regW (mkW [114, 50]) = some 2 from by decide, Option.map_some, Option.bind_some, goI, fld73, num_none (by decide)]
  dsimp only
  rw [if_pos (by decide)]
  exact guard_t (by decide)
set_option maxRecDepth 4000 in
theorem wl5 : insW numP (wd l5) = some ((22, 0, 0, 0, 0), e0) := by
  have hw : wd l5 = [mkW [104, 97, 108, 116]] := rfl
  have hi : idxI (mkW [104, 97, 108, 116]) nmL = 22 := by decide
  have hh : (hasS 22).data.toList = [] := by decide
  rw [hw, insW_go (by rw [hi]; decide), hi, hh, goI]
  exact guard_t (by decide)
set_option maxRecDepth 4000 in
theorem wl6 : insW numP (wd l6) = some ((0, 0, 0, 0, 0), e0) := by
  have hw : wd l6 = [mkW [110, 111, 112]] := rfl
  have hi : idxI (mkW [110, 111, 112]) nmL = 0 := by decide
  have hh : (hasS 0).data.toList = [] := by decide
  rw [hw, insW_go (by rw [hi]; decide), hi, hh, goI]
  exact guard_t (by decide)
set_option maxRecDepth 4000 in
theorem wl7 : insW numP (wd l7) = some ((17, 0, 0, 0, 0), mkW [110, 111, 119, 104, 101, 114, 101]) := by
  have hw : wd l7 = [mkW [106, 109, 112], mkW [110, 111, 119, 104, 101, 114, 101]] := rfl
  have hi : idxI (mkW [106, 109, 112]) nmL = 17 := by decide
  have hh : (hasS 17).data.toList = [73] := by decide
  rw [hw, insW_go (by rw [hi]; decide), hi, hh, goI, fld73, num_none (by decide)]
  dsimp only
  rw [if_pos (by decide)]
  exact guard_t (by decide)
theorem step_ins {line : Int} {s : ByteArray} {x : AS} {i : IN} {t : ByteArray} (h0 : s ≠ e0) (hc : sufB s colB = false) (h : insW numP (wd s) = some (i, t)) : stepE line s x = 0 ∧ stepX line s x = (x.1 ++ [i], x.2.1, x.2.2 ++ lbl x.1.length line t) := by
  have hc' : ¬ sufB s colB = true := by rw [hc]; decide
  rw [stepE, stepX, if_neg h0, if_neg h0, if_neg hc', if_neg hc', h]
  exact ⟨rfl, rfl⟩
theorem step_lab {line : Int} {s : ByteArray} {x : AS} (h0 : s ≠ e0) (hc : sufB s colB = true) (h : labF (s.extract 0 (s.size - 1)) = true) (hn : fM x.2.1 (s.extract 0 (s.size - 1)) = none) : stepE line s x = 0 ∧ stepX line s x = (x.1, x.2.1 ++ [(s.extract 0 (s.size - 1), (x.1.length : Int))], x.2.2) := by
  rw [stepE, stepX, if_neg h0, if_neg h0, if_pos hc, if_pos hc, if_pos h, hn]
  exact ⟨rfl, rfl⟩
theorem step_nil {line : Int} {x : AS} : stepE line e0 x = 0 ∧ stepX line e0 x = x := by
  rw [stepE, stepX, if_pos rfl, if_pos rfl]; exact ⟨rfl, rfl⟩
theorem runA_go {i : Int} {s : ByteArray} {r : List ByteArray} {x y : AS} (h : stepE i s x = 0 ∧ stepX i s x = y) : runA i (s :: r) x = runA (i + 1) r y := by
  rw [runA, if_pos h.1, h.2]
theorem wa1 : asmF [l1, l2, l3, e0, l5] = ([(1, 1, 0, 0, -5), (18, 1, 2, 0, 1), (22, 0, 0, 0, 0)], 0, 0) := by
  have hr : runA 0 [l1, l2, l3, e0, l5] aZ = (([(1, 1, 0, 0, -5), (18, 1, 2, 0, 0), (22, 0, 0, 0, 0)], [(mkW [108, 111, 111, 112], 1)], [(1, 2, mkW [108, 111, 111, 112])]), none) := by
    rw [runA_go (step_ins (by decide) (by decide) wl1), runA_go (step_lab (by decide) (by decide) (by decide) rfl), runA_go (step_ins (by decide) (by decide) wl3), runA_go step_nil, runA_go (step_ins (by decide) (by decide) wl5), runA]
    rfl
  rw [asmF_end hr]
  rfl
theorem wa2 : asmF [l6, l7] = ([], 1, 20) := by
  have hr : runA 0 [l6, l7] aZ = (([(0, 0, 0, 0, 0), (17, 0, 0, 0, 0)], [], [(1, 1, mkW [110, 111, 119, 104, 101, 114, 101])]), none) := by
    rw [runA_go (step_ins (by decide) (by decide) wl6), runA_go (step_ins (by decide) (by decide) wl7), runA]
    rfl
  rw [asmF_end hr]
  rfl
theorem wln : lineF (9, 3, 4, 0, 64) = ((⟨#[115, 116, 32, 114, 51, 32, 114, 52, 32, 54, 52]⟩ : ByteArray), 0) := by
  rw [lineF_t (by decide)]
  have hh : (hasS 9).data.toList = [65, 66, 73] := by decide
  have e : lineWs (9, 3, 4, 0, 64) = [nmF 9, rB ++ decB 3, rB ++ decB 4, decB 64] := by
    rw [lineWs, hh]; rfl
  have e3 : decB 3 = mkW [51] := dec1 (d := 3) (by decide)
  have e4 : decB 4 = mkW [52] := dec1 (d := 4) (by decide)
  have e64 : decB 64 = mkW [54, 52] := dec2 (d := 6) (e := 4) (by decide) (by decide) (by decide)
  rw [e, e3, e4, e64]; rfl
theorem wcd : codeF [(1, 1, 0, 0, -5), (18, 1, 2, 0, 1), (22, 0, 0, 0, 0)] = ([(1, 1, 0, 0, -5), (18, 1, 2, 0, 1), (22, 0, 0, 0, 0)].map encW, 0) := by decide
theorem v9 : Valid Tryz.prog 9 (.pre (gS [] [pB] fun _ => true)) := by
  refine gS_ok mixed Tbl_ok N19_ok Tryz.func9 call9 rfl ?_
  rintro _ hr y hy
  refine ⟨noLoop, ?_⟩
  refine Eq.mp (by kernel_rfl : (((ByteArray.mk ((108 : UInt8) :: (105 : UInt8) :: (32 : UInt8) :: (114 : UInt8) :: (49 : UInt8) :: (32 : UInt8) :: (45 : UInt8) :: (53 : UInt8) :: ([] : List UInt8)).toArray :: ByteArray.mk ((108 : UInt8) :: (111 : UInt8) :: (111 : UInt8) :: (112 : UInt8) :: (58 : UInt8) :: ([] : List UInt8)).toArray :: ByteArray.mk ((98 : UInt8) :: (101 : UInt8) :: (113 : UInt8) :: (32 : UInt8) :: (114 : UInt8) :: (49 : UInt8) :: (32 : UInt8) :: (114 : UInt8) :: (50 : UInt8) :: (32 : UInt8) :: (108 : UInt8) :: (111 : UInt8) :: (111 : UInt8) :: (112 : UInt8) :: ([] : List UInt8)).toArray :: ByteArray.mk ([] : List UInt8).toArray :: ByteArray.mk ((104 : UInt8) :: (97 : UInt8) :: (108 : UInt8) :: (116 : UInt8) :: ([] : List UInt8)).toArray :: ([] : List ByteArray)).length ≤ (50000 : Nat) ∧ ∀ (s : ByteArray), s ∈ ByteArray.mk ((108 : UInt8) :: (105 : UInt8) :: (32 : UInt8) :: (114 : UInt8) :: (49 : UInt8) :: (32 : UInt8) :: (45 : UInt8) :: (53 : UInt8) :: ([] : List UInt8)).toArray :: ByteArray.mk ((108 : UInt8) :: (111 : UInt8) :: (111 : UInt8) :: (112 : UInt8) :: (58 : UInt8) :: ([] : List UInt8)).toArray :: ByteArray.mk ((98 : UInt8) :: (101 : UInt8) :: (113 : UInt8) :: (32 : UInt8) :: (114 : UInt8) :: (49 : UInt8) :: (32 : UInt8) :: (114 : UInt8) :: (50 : UInt8) :: (32 : UInt8) :: (108 : UInt8) :: (111 : UInt8) :: (111 : UInt8) :: (112 : UInt8) :: ([] : List UInt8)).toArray :: ByteArray.mk ([] : List UInt8).toArray :: ByteArray.mk ((104 : UInt8) :: (97 : UInt8) :: (108 : UInt8) :: (116 : UInt8) :: ([] : List UInt8)).toArray :: ([] : List ByteArray) → s.size ≤ (1000000 : Nat)) ∧ ∀ (y_1 : Tup (pNs :: pI :: pI :: ([] : List PS))), y_1 = asmF (ByteArray.mk ((108 : UInt8) :: (105 : UInt8) :: (32 : UInt8) :: (114 : UInt8) :: (49 : UInt8) :: (32 : UInt8) :: (45 : UInt8) :: (53 : UInt8) :: ([] : List UInt8)).toArray :: ByteArray.mk ((108 : UInt8) :: (111 : UInt8) :: (111 : UInt8) :: (112 : UInt8) :: (58 : UInt8) :: ([] : List UInt8)).toArray :: ByteArray.mk ((98 : UInt8) :: (101 : UInt8) :: (113 : UInt8) :: (32 : UInt8) :: (114 : UInt8) :: (49 : UInt8) :: (32 : UInt8) :: (114 : UInt8) :: (50 : UInt8) :: (32 : UInt8) :: (108 : UInt8) :: (111 : UInt8) :: (111 : UInt8) :: (112 : UInt8) :: ([] : List UInt8)).toArray :: ByteArray.mk ([] : List UInt8).toArray :: ByteArray.mk ((104 : UInt8) :: (97 : UInt8) :: (108 : UInt8) :: (116 : UInt8) :: ([] : List UInt8)).toArray :: ([] : List ByteArray)) → ((ByteArray.mk ((110 : UInt8) :: (111 : UInt8) :: (112 : UInt8) :: ([] : List UInt8)).toArray :: ByteArray.mk ((106 : UInt8) :: (109 : UInt8) :: (112 : UInt8) :: (32 : UInt8) :: (110 : UInt8) :: (111 : UInt8) :: (119 : UInt8) :: (104 : UInt8) :: (101 : UInt8) :: (114 : UInt8) :: (101 : UInt8) :: ([] : List UInt8)).toArray :: ([] : List ByteArray)).length ≤ (50000 : Nat) ∧ ∀ (s : ByteArray), s ∈ ByteArray.mk ((110 : UInt8) :: (111 : UInt8) :: (112 : UInt8) :: ([] : List UInt8)).toArray :: ByteArray.mk ((106 : UInt8) :: (109 : UInt8) :: (112 : UInt8) :: (32 : UInt8) :: (110 : UInt8) :: (111 : UInt8) :: (119 : UInt8) :: (104 : UInt8) :: (101 : UInt8) :: (114 : UInt8) :: (101 : UInt8) :: ([] : List UInt8)).toArray :: ([] : List ByteArray) → s.size ≤ (1000000 : Nat)) ∧ ∀ (y_2 : Tup (pNs :: pI :: pI :: ([] : List PS))), y_2 = asmF (ByteArray.mk ((110 : UInt8) :: (111 : UInt8) :: (112 : UInt8) :: ([] : List UInt8)).toArray :: ByteArray.mk ((106 : UInt8) :: (109 : UInt8) :: (112 : UInt8) :: (32 : UInt8) :: (110 : UInt8) :: (111 : UInt8) :: (119 : UInt8) :: (104 : UInt8) :: (101 : UInt8) :: (114 : UInt8) :: (101 : UInt8) :: ([] : List UInt8)).toArray :: ([] : List ByteArray)) → y_1.fst.length ≤ (1000000 : Nat) ∧ ∀ (y_3 : Tup (pUs :: pI :: ([] : List PS))), y_3 = codeF y_1.fst → ((y_1.snd.snd == (0 : Int) && y_1.snd.fst == (0 : Int) && (↑y_1.fst.length : Int) == (3 : Int)) = true → ((0 : Int) ≤ (0 : Int) ∧ (0 : Int) < (↑y_1.fst.length : Int)) ∧ ∀ (y_4 : Int × Int × Int × Int × Int), y_1.fst[Int.toNat (0 : Int)]? = some y_4 → ((y_4.snd.snd.snd.snd == (-5 : Int)) = true → ((0 : Int) ≤ (1 : Int) ∧ (1 : Int) < (↑y_1.fst.length : Int)) ∧ ∀ (y_5 : Int × Int × Int × Int × Int), y_1.fst[Int.toNat (1 : Int)]? = some y_5 → (y_5.snd.snd.snd.snd == (1 : Int) && y_2.snd.snd == (20 : Int) && y_2.snd.fst == (1 : Int) && (0 : Int) == (0 : Int) && (joinB (lineWs ((9 : Int), (3 : Int), (4 : Int), (0 : Int), (64 : Int))) sp).toList == (ByteArray.mk ((115 : UInt8) :: (116 : UInt8) :: (32 : UInt8) :: (114 : UInt8) :: (51 : UInt8) :: (32 : UInt8) :: (114 : UInt8) :: (52 : UInt8) :: (32 : UInt8) :: (54 : UInt8) :: (52 : UInt8) :: ([] : List UInt8)).toArray).toList && y_3.snd == (0 : Int) && (↑y_3.fst.length : Int) == (3 : Int) && (nmF (13 : Int)).toList == (ByteArray.mk ((111 : UInt8) :: (112 : UInt8) :: (116 : UInt8) :: ([] : List UInt8)).toArray).toList) = y ∧ True) ∧ ((y_4.snd.snd.snd.snd == (-5 : Int)) = false → false = y ∧ True)) ∧ ((y_1.snd.snd == (0 : Int) && y_1.snd.fst == (0 : Int) && (↑y_1.fst.length : Int) == (3 : Int)) = false → false = y ∧ True)) = _) ?_
  have hy : true = y := hy
  subst hy
  have g1 : ∀ s ∈ [l1, l2, l3, e0, l5], ByteArray.size s ≤ 1000000 := by decide
  have g2 : ∀ s ∈ [l6, l7], ByteArray.size s ≤ 1000000 := by decide
  refine ⟨⟨by decide, g1⟩, fun y1 h1 => ⟨⟨by decide, g2⟩, fun y2 h2 => ?_⟩⟩
  have h1 : y1 = ([(1, 1, 0, 0, -5), (18, 1, 2, 0, 1), (22, 0, 0, 0, 0)], 0, 0) := h1.trans wa1
  have h2 : y2 = ([], 1, 20) := h2.trans wa2
  subst h1; subst h2
  refine ⟨by decide, fun y3 h3 => ?_⟩
  have h3 : y3 = ([(1, 1, 0, 0, -5), (18, 1, 2, 0, 1), (22, 0, 0, 0, 0)].map encW, 0) := h3.trans wcd
  subst h3
  refine ⟨fun _ => ⟨by decide, fun y4 h4 => ?_⟩, fun h => absurd h (by decide)⟩
  have h4 : (1, 1, 0, 0, -5) = y4 := Option.some.inj h4
  subst h4
  refine ⟨fun _ => ⟨by decide, fun y5 h5 => ?_⟩, fun h => absurd h (by decide)⟩
  have h5 : (18, 1, 2, 0, 1) = y5 := Option.some.inj h5
  subst h5
  have hj : joinB (lineWs (9, 3, 4, 0, 64)) sp = (⟨#[115, 116, 32, 114, 51, 32, 114, 52, 32, 54, 52]⟩ : ByteArray) := by
    have := congrArg Prod.fst wln
    rw [lineF_t (by decide)] at this
    exact this
  rw [hj, toList_data, toList_data, toList_data]
  exact ⟨by decide, trivial⟩
abbrev lp8 (L : List ByteArray) : Nat → Option LoopSp := fun _ => some { X := Nat, sl := fun k => [(0, .one (.rd .str L)), (3, .one (vi k))], h := fun _ => [], nx := 0, inv := fun k => k ≤ L.length ∧ (L.take k).all (fun s => decide (ByteArray.size s ≤ 1000)) = true, mu := fun k => L.length - k }
def fairF (L : List ByteArray) : Bool := L.all (fun s => decide (ByteArray.size s ≤ 1000)) && decide (L.length ≤ 300)
theorem v8 : Valid Tryz.prog 8 (.tot (tS [pSs] [pB] fairF)) := by
  refine tS_ok mixed Tbl_ok N19_ok Tryz.func8 call8 rfl rfl rfl ?_
  intro (L : List ByteArray) hr z hz
  refine ⟨lp8 L, ?_⟩
  refine Eq.mp (by kernel_rfl : ((∃ (x : Nat), (x ≤ L.length ∧ ((List.take x L).all fun (s : ByteArray) => decide (s.size ≤ (1000 : Nat))) = true) ∧ L ≍ L ∧ (0 : Int) = (↑x : Int) ∧ True) ∧ ∀ (x : Nat), x ≤ L.length ∧ ((List.take x L).all fun (s : ByteArray) => decide (s.size ≤ (1000 : Nat))) = true → (decide ((↑x : Int) < (↑L.length : Int)) = true → ((0 : Int) ≤ (↑x : Int) ∧ (↑x : Int) < (↑L.length : Int)) ∧ ∀ (y : ByteArray), L[(↑x : Int).toNat]? = some y → (decide ((↑y.size : Int) > (1000 : Int)) = true → false = z ∧ True) ∧ (decide ((↑y.size : Int) > (1000 : Int)) = false → ((-9223372036854775808 : Int) ≤ (↑x : Int) + (1 : Int) ∧ (↑x : Int) + (1 : Int) ≤ (9223372036854775807 : Int)) ∧ ∃ (y : Nat), (y ≤ L.length ∧ ((List.take y L).all fun (s : ByteArray) => decide (s.size ≤ (1000 : Nat))) = true) ∧ L.length - y < L.length - x ∧ L ≍ L ∧ (↑x : Int) + (1 : Int) = (↑y : Int) ∧ True)) ∧ (decide ((↑x : Int) < (↑L.length : Int)) = false → decide ((↑L.length : Int) ≤ (300 : Int)) = z ∧ True)) = _) ?_
  have hz : fairF L = z := hz
  subst hz
  have hm : L.length ≤ maxLen := hr.1
  have hmx : (maxLen : Int) ≤ 9223372036854775807 := by decide
  refine ⟨⟨0, ⟨Nat.zero_le _, rfl⟩, HEq.rfl, rfl, trivial⟩, fun x h => ⟨fun h1 => ⟨by simp only [decide_eq_true_eq] at h1; omega, fun y hy => ⟨fun h2 => ⟨?_, trivial⟩, fun h2 => ⟨by simp only [decide_eq_true_eq] at h1; omega, x + 1, ⟨by simp only [decide_eq_true_eq] at h1; omega, all_take h.2 (by rw [Int.toNat_natCast] at hy; exact hy) ?_⟩, by simp only [decide_eq_true_eq] at h1; omega, HEq.rfl, by simp, trivial⟩⟩⟩, fun h1 => ⟨?_, trivial⟩⟩⟩
  · have : L.all (fun s => decide (ByteArray.size s ≤ 1000)) = false := by
      rw [List.all_eq_false]
      exact ⟨y, List.mem_of_getElem? hy, by simp only [decide_eq_true_eq] at h2 ⊢; omega⟩
    rw [fairF, this, Bool.false_and]
  · simp only [decide_eq_false_iff_not] at h2
    simp only [decide_eq_true_eq]; omega
  · have h1 : L.length ≤ x := by simp only [decide_eq_false_iff_not] at h1; omega
    have h2 := h.2
    rw [List.take_of_length_le h1] at h2
    rw [fairF, h2, Bool.true_and, decide_eq_decide]
    omega
abbrev N20 : List (Nat × Spec) := (9, .pre (gS [] [pB] fun _ => true)) :: (8, .tot (tS [pSs] [pB] fairF)) :: N19
theorem N20_all : ∀ p ∈ N20, Valid Tryz.prog p.1 p.2 := vcons v9 (vcons v8 N19_all)
theorem N20_ok : ∀ f S, spL N20 f = some S → Valid Tryz.prog f S := spL_ok N20_all
end Go.Proofs.YtnbbooilapelmaaGreatDoor.V

namespace Go.Proofs.YtnbbooilapelmaaGreatDoor.V
open Go.RowKit Go.Proofs.YtnbbooilapelmaaGreatDoor
set_option linter.unusedSimpArgs false
set_option pp.deepTerms true
set_option pp.maxSteps 200000
theorem fair_sz {L : List ByteArray} (h : fairF L = true) : L.length ≤ 300 ∧ ∀ s ∈ L, ByteArray.size s ≤ 1000 := by
  rw [fairF, Bool.and_eq_true, decide_eq_true_eq, List.all_eq_true] at h
  exact ⟨h.2, fun s hs => by simpa using h.1 s hs⟩
theorem reads_law : ∀ x, rngTup [pSs] x → ∃ lp, runF Tbl (spL N20) lp 0 Tryz.f3 (enVs [pSs] x) ⟨0, []⟩ fun r' st' => fzR st' (mkB true) r' := by
  intro (L : List ByteArray) hr
  refine ⟨noLoop, ?_⟩
  refine Eq.mp (by kernel_rfl : (((!fairF L) = true → true = true ∧ True) ∧ ((!fairF L) = false → (([] : List ByteArray).length + L.length) * (16 : Nat) ≤ (140737488355328 : Nat) ∧ ((([] : List ByteArray) ++ L).length ≤ (50000 : Nat) ∧ ∀ (s : ByteArray), s ∈ ([] : List ByteArray) ++ L → s.size ≤ (1000000 : Nat)) ∧ ∀ (y : Tup (pNs :: pI :: pI :: ([] : List PS))), y = asmF (([] : List ByteArray) ++ L) → (L.length ≤ (50000 : Nat) ∧ ∀ (s : ByteArray), s ∈ L → s.size ≤ (1000000 : Nat)) ∧ ∀ (y_1 : Tup (pNs :: pI :: pI :: ([] : List PS))), y_1 = asmF L → ((eqN (y.fst, y_1.fst) && y.snd.fst == y_1.snd.fst && y.snd.snd == y_1.snd.snd) = true → true = true ∧ True) ∧ ((eqN (y.fst, y_1.fst) && y.snd.fst == y_1.snd.fst && y.snd.snd == y_1.snd.snd) = false → false = true ∧ True))) = _) ?_
  refine ⟨fun _ => ⟨rfl, trivial⟩, fun h => ?_⟩
  have h : fairF L = true := by simpa using h
  have hf := fair_sz h
  have hg : L.length ≤ 50000 ∧ ∀ (s : ByteArray), s ∈ L → s.size ≤ 1000000 := ⟨by omega, fun s hs => Nat.le_trans (hf.2 s hs) (by decide)⟩
  rw [List.nil_append, List.length_nil, Nat.zero_add]
  refine ⟨by omega, hg, fun y hy => ⟨hg, fun z hz => ?_⟩⟩
  subst hy; subst hz
  refine ⟨fun _ => ⟨rfl, trivial⟩, fun h => absurd h ?_⟩
  simp [eqN]
abbrev lp4 (l : List IN) (op : Int) : Nat → Option LoopSp := fun _ => some { X := Nat, sl := fun k => [(0, .one (.rd shI l)), (1, .one (vi op)), (5, .one (.rd (.int .u64) (codeF l).1)), (6, .one (vi (codeF l).2)), (7, .one (.rd (.int .u64) (codeF l).1)), (8, .one (vi (codeF l).2)), (9, .one (vi k))], h := fun _ => [], nx := 0, inv := fun k => k ≤ l.length, mu := fun k => l.length - k }
theorem lines_law : ∀ x, rngTup [pNs, pI] x → ∃ lp, runF Tbl (spL N20) lp 0 Tryz.f4 (enVs [pNs, pI] x) ⟨0, []⟩ fun r' st' => fzR st' (mkB true) r' := by
  intro ⟨(l : List IN), (op : Int)⟩ hr
  refine ⟨lp4 l op, ?_⟩
  refine Eq.mp (by kernel_rfl : ((decide ((↑l.length : Int) > (300 : Int)) = true → true = true ∧ True) ∧ (decide ((↑l.length : Int) > (300 : Int)) = false → (([] : List (Int × Int × Int × Int × Int)).length + l.length) * (40 : Nat) ≤ (140737488355328 : Nat) ∧ (([] : List (Int × Int × Int × Int × Int)) ++ l).length ≤ (1000000 : Nat) ∧ ∀ (y : Tup (pUs :: pI :: ([] : List PS))), y = codeF (([] : List (Int × Int × Int × Int × Int)) ++ l) → l.length ≤ (1000000 : Nat) ∧ ∀ (y_1 : Tup (pUs :: pI :: ([] : List PS))), y_1 = codeF l → (∃ (x : Nat), x ≤ l.length ∧ l ≍ l ∧ op = op ∧ y.fst ≍ (codeF l).fst ∧ y.snd = (codeF l).snd ∧ y_1.fst ≍ (codeF l).fst ∧ y_1.snd = (codeF l).snd ∧ (0 : Int) = (↑x : Int) ∧ True) ∧ ∀ (x : Nat), x ≤ l.length → (decide ((↑x : Int) < (↑l.length : Int)) = true → ((0 : Int) ≤ (↑x : Int) ∧ (↑x : Int) < (↑l.length : Int)) ∧ ∀ (y : Int × Int × Int × Int × Int), l[(↑x : Int).toNat]? = some y → ((0 : Int) ≤ (↑x : Int) ∧ (↑x : Int) < (↑l.length : Int)) ∧ ∀ (y_2 : Int × Int × Int × Int × Int), l[(↑x : Int).toNat]? = some y_2 → ((!(lineF (y.fst, y.snd.fst, y.snd.snd.fst, y.snd.snd.snd.fst, y.snd.snd.snd.snd)).fst.toList == (lineF (y_2.fst, y_2.snd.fst, y_2.snd.snd.fst, y_2.snd.snd.snd.fst, y_2.snd.snd.snd.snd)).fst.toList || (lineF (y.fst, y.snd.fst, y.snd.snd.fst, y.snd.snd.snd.fst, y.snd.snd.snd.snd)).snd != (lineF (y_2.fst, y_2.snd.fst, y_2.snd.snd.fst, y_2.snd.snd.snd.fst, y_2.snd.snd.snd.snd)).snd) = true → false = true ∧ True) ∧ ((!(lineF (y.fst, y.snd.fst, y.snd.snd.fst, y.snd.snd.snd.fst, y.snd.snd.snd.snd)).fst.toList == (lineF (y_2.fst, y_2.snd.fst, y_2.snd.snd.fst, y_2.snd.snd.snd.fst, y_2.snd.snd.snd.snd)).fst.toList || (lineF (y.fst, y.snd.fst, y.snd.snd.fst, y.snd.snd.snd.fst, y.snd.snd.snd.snd)).snd != (lineF (y_2.fst, y_2.snd.fst, y_2.snd.snd.fst, y_2.snd.snd.snd.fst, y_2.snd.snd.snd.snd)).snd) = false → ((-9223372036854775808 : Int) ≤ (↑x : Int) + (1 : Int) ∧ (↑x : Int) + (1 : Int) ≤ (9223372036854775807 : Int)) ∧ ∃ (y : Nat), y ≤ l.length ∧ l.length - y < l.length - x ∧ l ≍ l ∧ op = op ∧ (codeF l).fst ≍ (codeF l).fst ∧ (codeF l).snd = (codeF l).snd ∧ (codeF l).fst ≍ (codeF l).fst ∧ (codeF l).snd = (codeF l).snd ∧ (↑x : Int) + (1 : Int) = (↑y : Int) ∧ True)) ∧ (decide ((↑x : Int) < (↑l.length : Int)) = false → ((eqW ((codeF l).fst, (codeF l).fst) && (codeF l).snd == (codeF l).snd && (nmF op).toList == (nmF op).toList) = true → true = true ∧ True) ∧ ((eqW ((codeF l).fst, (codeF l).fst) && (codeF l).snd == (codeF l).snd && (nmF op).toList == (nmF op).toList) = false → false = true ∧ True)))) = _) ?_
  refine ⟨fun _ => ⟨rfl, trivial⟩, fun h => ?_⟩
  have h : l.length ≤ 300 := by simp only [decide_eq_false_iff_not] at h; omega
  rw [List.nil_append, List.length_nil, Nat.zero_add]
  refine ⟨by omega, by omega, fun y hy => ⟨by omega, fun z hz => ?_⟩⟩
  subst hy; subst hz
  refine ⟨⟨0, Nat.zero_le _, HEq.rfl, rfl, HEq.rfl, rfl, HEq.rfl, rfl, rfl, trivial⟩, fun k hk => ⟨fun h1 => ?_, fun h1 => ⟨fun _ => ⟨rfl, trivial⟩, fun h => absurd h ?_⟩⟩⟩
  · have hl : k < l.length := by simp only [decide_eq_true_eq] at h1; omega
    refine ⟨⟨by omega, by omega⟩, fun a ha => ⟨⟨by omega, by omega⟩, fun b hb => ?_⟩⟩
    have e : a = b := Option.some.inj (ha.symm.trans hb)
    subst e
    refine ⟨fun h => absurd h ?_, fun _ => ⟨by omega, k + 1, hl, by omega, HEq.rfl, rfl, HEq.rfl, rfl, HEq.rfl, rfl, by omega, trivial⟩⟩
    simp
  · simp [eqW]
section
variable {H : Type} {enc : TypeId × Value → H} {base : Nat} (W : World)
theorem reads_walk (hg : GlOk (fun k => k < W.heap.size) W) (v0 : Value) (a0 : Arg enc Tryz.prog W base 22 v0) : Calls Tryz.prog 3 #[v0] W fun e w' => e = .returned (.bool true) ∧ Below W.heap.size W w' :=
  law_of (ps := [pSs]) (ts := [22]) (vs := [v0]) mixed Tbl_ok N20_ok Tryz.func3 rfl (by kernel_rfl) ⟨a0, trivial⟩ reads_law hg
theorem lines_walk (hg : GlOk (fun k => k < W.heap.size) W) (v0 v1 : Value) (a0 : Arg enc Tryz.prog W base 25 v0) (a1 : Arg enc Tryz.prog W base 3 v1) : Calls Tryz.prog 4 #[v0, v1] W fun e w' => e = .returned (.bool true) ∧ Below W.heap.size W w' :=
  law_of (ps := [pNs, pI]) (ts := [25, 3]) (vs := [v0, v1]) mixed Tbl_ok N20_ok Tryz.func4 rfl (by kernel_rfl) ⟨a0, a1, trivial⟩ lines_law hg
end
end Go.Proofs.YtnbbooilapelmaaGreatDoor.V
