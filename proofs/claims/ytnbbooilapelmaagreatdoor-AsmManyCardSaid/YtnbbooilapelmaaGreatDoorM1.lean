import Derived.KernelRfl
import Derived.Test.YtnbbooilapelmaaGreatDoorIc
import Derived.Test.YtnbbooilapelmaaGreatDoorWo
import Derived.Test.YtnbbooilapelmaaGreatDoorSh
import Derived.Test.YtnbbooilapelmaaGreatDoorTys
import Derived.Test.YtnbbooilapelmaaGreatDoorKitVt
import Derived.Test.YtnbbooilapelmaaGreatDoorKitVr
import Derived.Lib.AppendIntMem
namespace Go.Proofs.YtnbbooilapelmaaGreatDoor.V
open Go.RowKit Go.Proofs.YtnbbooilapelmaaGreatDoor
set_option linter.unusedSimpArgs false
abbrev vi (z : Int) : CV := .val (.int .i64 z)
abbrev shi : Sh := .int .i64
abbrev pSs : PS := (false, .sl .str)
abbrev pNs : PS := (false, .sl shI)
abbrev pUs : PS := (false, .sl (.int .u64))
def nmL : List ByteArray := [⟨#[110, 111, 112]⟩, ⟨#[108, 105]⟩, ⟨#[97, 100, 100]⟩, ⟨#[115, 117, 98]⟩, ⟨#[97, 110, 100]⟩, ⟨#[120, 111, 114]⟩, ⟨#[115, 104, 108]⟩, ⟨#[115, 104, 114]⟩, ⟨#[108, 100]⟩, ⟨#[115, 116]⟩, ⟨#[99, 97, 115]⟩, ⟨#[120, 97, 100, 100]⟩, ⟨#[99, 108, 119, 98]⟩, ⟨#[111, 112, 116]⟩, ⟨#[102, 108, 117, 115, 104]⟩, ⟨#[115, 102, 101, 110, 99, 101]⟩, ⟨#[109, 102, 101, 110, 99, 101]⟩, ⟨#[106, 109, 112]⟩, ⟨#[98, 101, 113]⟩, ⟨#[98, 110, 101]⟩, ⟨#[98, 108, 116]⟩, ⟨#[116, 101, 108, 108]⟩, ⟨#[104, 97, 108, 116]⟩]
def nmV : List CV := [.val (.string ⟨#[110, 111, 112]⟩), .val (.string ⟨#[108, 105]⟩), .val (.string ⟨#[97, 100, 100]⟩), .val (.string ⟨#[115, 117, 98]⟩), .val (.string ⟨#[97, 110, 100]⟩), .val (.string ⟨#[120, 111, 114]⟩), .val (.string ⟨#[115, 104, 108]⟩), .val (.string ⟨#[115, 104, 114]⟩), .val (.string ⟨#[108, 100]⟩), .val (.string ⟨#[115, 116]⟩), .val (.string ⟨#[99, 97, 115]⟩), .val (.string ⟨#[120, 97, 100, 100]⟩), .val (.string ⟨#[99, 108, 119, 98]⟩), .val (.string ⟨#[111, 112, 116]⟩), .val (.string ⟨#[102, 108, 117, 115, 104]⟩), .val (.string ⟨#[115, 102, 101, 110, 99, 101]⟩), .val (.string ⟨#[109, 102, 101, 110, 99, 101]⟩), .val (.string ⟨#[106, 109, 112]⟩), .val (.string ⟨#[98, 101, 113]⟩), .val (.string ⟨#[98, 110, 101]⟩), .val (.string ⟨#[98, 108, 116]⟩), .val (.string ⟨#[116, 101, 108, 108]⟩), .val (.string ⟨#[104, 97, 108, 116]⟩)]
/-- An operation's name. -/
def nmF (op : Int) : ByteArray := match decide (0 ≤ op ∧ op ≤ 22) with | true => nmL.getD op.toNat ⟨#[]⟩ | false => ⟨#[]⟩
abbrev nmsS (args : List Vl) : Option Rs := match args with | [] => some (.v (.agg nmV)) | _ => none
theorem v35 : Valid Tryz.prog 35 (.tot nmsS) := by
  refine valid_tot mixed Tbl_ok L9_ok Tryz.func35 call35 fun args r hS _ => ?_
  unfold nmsS at hS
  split at hS
  case h_2 => cases hS
  cases hS
  refine ⟨rfl, rfl, noLoop, ?_⟩
  refine Eq.mp (by kernel_rfl : (Value.string (ByteArray.mk ((110 : UInt8) :: (111 : UInt8) :: (112 : UInt8) :: ([] : List UInt8)).toArray) = Value.string (ByteArray.mk ((110 : UInt8) :: (111 : UInt8) :: (112 : UInt8) :: ([] : List UInt8)).toArray) ∧ Value.string (ByteArray.mk ((108 : UInt8) :: (105 : UInt8) :: ([] : List UInt8)).toArray) = Value.string (ByteArray.mk ((108 : UInt8) :: (105 : UInt8) :: ([] : List UInt8)).toArray) ∧ Value.string (ByteArray.mk ((97 : UInt8) :: (100 : UInt8) :: (100 : UInt8) :: ([] : List UInt8)).toArray) = Value.string (ByteArray.mk ((97 : UInt8) :: (100 : UInt8) :: (100 : UInt8) :: ([] : List UInt8)).toArray) ∧ Value.string (ByteArray.mk ((115 : UInt8) :: (117 : UInt8) :: (98 : UInt8) :: ([] : List UInt8)).toArray) = Value.string (ByteArray.mk ((115 : UInt8) :: (117 : UInt8) :: (98 : UInt8) :: ([] : List UInt8)).toArray) ∧ Value.string (ByteArray.mk ((97 : UInt8) :: (110 : UInt8) :: (100 : UInt8) :: ([] : List UInt8)).toArray) = Value.string (ByteArray.mk ((97 : UInt8) :: (110 : UInt8) :: (100 : UInt8) :: ([] : List UInt8)).toArray) ∧ Value.string (ByteArray.mk ((120 : UInt8) :: (111 : UInt8) :: (114 : UInt8) :: ([] : List UInt8)).toArray) = Value.string (ByteArray.mk ((120 : UInt8) :: (111 : UInt8) :: (114 : UInt8) :: ([] : List UInt8)).toArray) ∧ Value.string (ByteArray.mk ((115 : UInt8) :: (104 : UInt8) :: (108 : UInt8) :: ([] : List UInt8)).toArray) = Value.string (ByteArray.mk ((115 : UInt8) :: (104 : UInt8) :: (108 : UInt8) :: ([] : List UInt8)).toArray) ∧ Value.string (ByteArray.mk ((115 : UInt8) :: (104 : UInt8) :: (114 : UInt8) :: ([] : List UInt8)).toArray) = Value.string (ByteArray.mk ((115 : UInt8) :: (104 : UInt8) :: (114 : UInt8) :: ([] : List UInt8)).toArray) ∧ Value.string (ByteArray.mk ((108 : UInt8) :: (100 : UInt8) :: ([] : List UInt8)).toArray) = Value.string (ByteArray.mk ((108 : UInt8) :: (100 : UInt8) :: ([] : List UInt8)).toArray) ∧ Value.string (ByteArray.mk ((115 : UInt8) :: (116 : UInt8) :: ([] : List UInt8)).toArray) = Value.string (ByteArray.mk ((115 : UInt8) :: (116 : UInt8) :: ([] : List UInt8)).toArray) ∧ Value.string (ByteArray.mk ((99 : UInt8) :: (97 : UInt8) :: (115 : UInt8) :: ([] : List UInt8)).toArray) = Value.string (ByteArray.mk ((99 : UInt8) :: (97 : UInt8) :: (115 : UInt8) :: ([] : List UInt8)).toArray) ∧ Value.string (ByteArray.mk ((120 : UInt8) :: (97 : UInt8) :: (100 : UInt8) :: (100 : UInt8) :: ([] : List UInt8)).toArray) = Value.string (ByteArray.mk ((120 : UInt8) :: (97 : UInt8) :: (100 : UInt8) :: (100 : UInt8) :: ([] : List UInt8)).toArray) ∧ Value.string (ByteArray.mk ((99 : UInt8) :: (108 : UInt8) :: (119 : UInt8) :: (98 : UInt8) :: ([] : List UInt8)).toArray) = Value.string (ByteArray.mk ((99 : UInt8) :: (108 : UInt8) :: (119 : UInt8) :: (98 : UInt8) :: ([] : List UInt8)).toArray) ∧ Value.string (ByteArray.mk ((111 : UInt8) :: (112 : UInt8) :: (116 : UInt8) :: ([] : List UInt8)).toArray) = Value.string (ByteArray.mk ((111 : UInt8) :: (112 : UInt8) :: (116 : UInt8) :: ([] : List UInt8)).toArray) ∧ Value.string (ByteArray.mk ((102 : UInt8) :: (108 : UInt8) :: (117 : UInt8) :: (115 : UInt8) :: (104 : UInt8) :: ([] : List UInt8)).toArray) = Value.string (ByteArray.mk ((102 : UInt8) :: (108 : UInt8) :: (117 : UInt8) :: (115 : UInt8) :: (104 : UInt8) :: ([] : List UInt8)).toArray) ∧ Value.string (ByteArray.mk ((115 : UInt8) :: (102 : UInt8) :: (101 : UInt8) :: (110 : UInt8) :: (99 : UInt8) :: (101 : UInt8) :: ([] : List UInt8)).toArray) = Value.string (ByteArray.mk ((115 : UInt8) :: (102 : UInt8) :: (101 : UInt8) :: (110 : UInt8) :: (99 : UInt8) :: (101 : UInt8) :: ([] : List UInt8)).toArray) ∧ Value.string (ByteArray.mk ((109 : UInt8) :: (102 : UInt8) :: (101 : UInt8) :: (110 : UInt8) :: (99 : UInt8) :: (101 : UInt8) :: ([] : List UInt8)).toArray) = Value.string (ByteArray.mk ((109 : UInt8) :: (102 : UInt8) :: (101 : UInt8) :: (110 : UInt8) :: (99 : UInt8) :: (101 : UInt8) :: ([] : List UInt8)).toArray) ∧ Value.string (ByteArray.mk ((106 : UInt8) :: (109 : UInt8) :: (112 : UInt8) :: ([] : List UInt8)).toArray) = Value.string (ByteArray.mk ((106 : UInt8) :: (109 : UInt8) :: (112 : UInt8) :: ([] : List UInt8)).toArray) ∧ Value.string (ByteArray.mk ((98 : UInt8) :: (101 : UInt8) :: (113 : UInt8) :: ([] : List UInt8)).toArray) = Value.string (ByteArray.mk ((98 : UInt8) :: (101 : UInt8) :: (113 : UInt8) :: ([] : List UInt8)).toArray) ∧ Value.string (ByteArray.mk ((98 : UInt8) :: (110 : UInt8) :: (101 : UInt8) :: ([] : List UInt8)).toArray) = Value.string (ByteArray.mk ((98 : UInt8) :: (110 : UInt8) :: (101 : UInt8) :: ([] : List UInt8)).toArray) ∧ Value.string (ByteArray.mk ((98 : UInt8) :: (108 : UInt8) :: (116 : UInt8) :: ([] : List UInt8)).toArray) = Value.string (ByteArray.mk ((98 : UInt8) :: (108 : UInt8) :: (116 : UInt8) :: ([] : List UInt8)).toArray) ∧ Value.string (ByteArray.mk ((116 : UInt8) :: (101 : UInt8) :: (108 : UInt8) :: (108 : UInt8) :: ([] : List UInt8)).toArray) = Value.string (ByteArray.mk ((116 : UInt8) :: (101 : UInt8) :: (108 : UInt8) :: (108 : UInt8) :: ([] : List UInt8)).toArray) ∧ Value.string (ByteArray.mk ((104 : UInt8) :: (97 : UInt8) :: (108 : UInt8) :: (116 : UInt8) :: ([] : List UInt8)).toArray) = Value.string (ByteArray.mk ((104 : UInt8) :: (97 : UInt8) :: (108 : UInt8) :: (116 : UInt8) :: ([] : List UInt8)).toArray) ∧ True) = _) ?_
  repeat' apply And.intro
  all_goals first | rfl | trivial
theorem v36 : Valid Tryz.prog 36 (.pre (gS [] [pSs] fun _ => nmL)) := by
  refine gS_ok mixed Tbl_ok L9_ok Tryz.func36 call36 rfl ?_
  rintro _ hr y hy
  refine ⟨noLoop, ?_⟩
  refine Eq.mp (by kernel_rfl : (ByteArray.mk ((110 : UInt8) :: (111 : UInt8) :: (112 : UInt8) :: ([] : List UInt8)).toArray :: ByteArray.mk ((108 : UInt8) :: (105 : UInt8) :: ([] : List UInt8)).toArray :: ByteArray.mk ((97 : UInt8) :: (100 : UInt8) :: (100 : UInt8) :: ([] : List UInt8)).toArray :: ByteArray.mk ((115 : UInt8) :: (117 : UInt8) :: (98 : UInt8) :: ([] : List UInt8)).toArray :: ByteArray.mk ((97 : UInt8) :: (110 : UInt8) :: (100 : UInt8) :: ([] : List UInt8)).toArray :: ByteArray.mk ((120 : UInt8) :: (111 : UInt8) :: (114 : UInt8) :: ([] : List UInt8)).toArray :: ByteArray.mk ((115 : UInt8) :: (104 : UInt8) :: (108 : UInt8) :: ([] : List UInt8)).toArray :: ByteArray.mk ((115 : UInt8) :: (104 : UInt8) :: (114 : UInt8) :: ([] : List UInt8)).toArray :: ByteArray.mk ((108 : UInt8) :: (100 : UInt8) :: ([] : List UInt8)).toArray :: ByteArray.mk ((115 : UInt8) :: (116 : UInt8) :: ([] : List UInt8)).toArray :: ByteArray.mk ((99 : UInt8) :: (97 : UInt8) :: (115 : UInt8) :: ([] : List UInt8)).toArray :: ByteArray.mk ((120 : UInt8) :: (97 : UInt8) :: (100 : UInt8) :: (100 : UInt8) :: ([] : List UInt8)).toArray :: ByteArray.mk ((99 : UInt8) :: (108 : UInt8) :: (119 : UInt8) :: (98 : UInt8) :: ([] : List UInt8)).toArray :: ByteArray.mk ((111 : UInt8) :: (112 : UInt8) :: (116 : UInt8) :: ([] : List UInt8)).toArray :: ByteArray.mk ((102 : UInt8) :: (108 : UInt8) :: (117 : UInt8) :: (115 : UInt8) :: (104 : UInt8) :: ([] : List UInt8)).toArray :: ByteArray.mk ((115 : UInt8) :: (102 : UInt8) :: (101 : UInt8) :: (110 : UInt8) :: (99 : UInt8) :: (101 : UInt8) :: ([] : List UInt8)).toArray :: ByteArray.mk ((109 : UInt8) :: (102 : UInt8) :: (101 : UInt8) :: (110 : UInt8) :: (99 : UInt8) :: (101 : UInt8) :: ([] : List UInt8)).toArray :: ByteArray.mk ((106 : UInt8) :: (109 : UInt8) :: (112 : UInt8) :: ([] : List UInt8)).toArray :: ByteArray.mk ((98 : UInt8) :: (101 : UInt8) :: (113 : UInt8) :: ([] : List UInt8)).toArray :: ByteArray.mk ((98 : UInt8) :: (110 : UInt8) :: (101 : UInt8) :: ([] : List UInt8)).toArray :: ByteArray.mk ((98 : UInt8) :: (108 : UInt8) :: (116 : UInt8) :: ([] : List UInt8)).toArray :: ByteArray.mk ((116 : UInt8) :: (101 : UInt8) :: (108 : UInt8) :: (108 : UInt8) :: ([] : List UInt8)).toArray :: ByteArray.mk ((104 : UInt8) :: (97 : UInt8) :: (108 : UInt8) :: (116 : UInt8) :: ([] : List UInt8)).toArray :: ([] : List ByteArray) ≍ y ∧ True) = _) ?_
  have hy : nmL = y := hy
  subst hy
  exact ⟨HEq.rfl, trivial⟩
abbrev N0 : List (Nat × Spec) := (35, .tot nmsS) :: (36, .pre (gS [] [pSs] fun _ => nmL)) :: L9
theorem N0_all : ∀ p ∈ N0, Valid Tryz.prog p.1 p.2 := vcons v35 (vcons v36 L9_all)
theorem N0_ok : ∀ f S, spL N0 f = some S → Valid Tryz.prog f S := spL_ok N0_all
theorem nmF_out {op : Int} (h : ¬ (0 ≤ op ∧ op ≤ 22)) : nmF op = ⟨#[]⟩ := by rw [nmF, decide_eq_false h]
theorem nmF_in {op : Int} (h : 0 ≤ op ∧ op ≤ 22) : nmF op = nmL.getD op.toNat ⟨#[]⟩ := by rw [nmF, decide_eq_true h]
theorem v18 : Valid Tryz.prog 18 (.tot (tS [pI] [pS] nmF)) := by
  refine tS_ok mixed Tbl_ok N0_ok Tryz.func18 call18 rfl rfl rfl ?_
  rintro (op : Int) hr z hz
  refine ⟨noLoop, ?_⟩
  refine Eq.mp (by kernel_rfl : (((decide (op < (0 : Int)) || decide (op > (22 : Int))) = true → Value.string (ByteArray.mk ([] : List UInt8).toArray) = Value.string z ∧ True) ∧ ((decide (op < (0 : Int)) || decide (op > (22 : Int))) = false → ((0 : Int) ≤ op ∧ op < (↑(23 : Nat) : Int)) ∧ (op = (↑(0 : Nat) : Int) → Value.string (ByteArray.mk ((110 : UInt8) :: (111 : UInt8) :: (112 : UInt8) :: ([] : List UInt8)).toArray) = Value.string z ∧ True) ∧ (op = (↑((0 : Nat) + (1 : Nat)) : Int) → Value.string (ByteArray.mk ((108 : UInt8) :: (105 : UInt8) :: ([] : List UInt8)).toArray) = Value.string z ∧ True) ∧ (op = (↑((0 : Nat) + (1 : Nat) + (1 : Nat)) : Int) → Value.string (ByteArray.mk ((97 : UInt8) :: (100 : UInt8) :: (100 : UInt8) :: ([] : List UInt8)).toArray) = Value.string z ∧ True) ∧ (op = (↑((0 : Nat) + (1 : Nat) + (1 : Nat) + (1 : Nat)) : Int) → Value.string (ByteArray.mk ((115 : UInt8) :: (117 : UInt8) :: (98 : UInt8) :: ([] : List UInt8)).toArray) = Value.string z ∧ True) ∧ (op = (↑((0 : Nat) + (1 : Nat) + (1 : Nat) + (1 : Nat) + (1 : Nat)) : Int) → Value.string (ByteArray.mk ((97 : UInt8) :: (110 : UInt8) :: (100 : UInt8) :: ([] : List UInt8)).toArray) = Value.string z ∧ True) ∧ (op = (↑((0 : Nat) + (1 : Nat) + (1 : Nat) + (1 : Nat) + (1 : Nat) + (1 : Nat)) : Int) → Value.string (ByteArray.mk ((120 : UInt8) :: (111 : UInt8) :: (114 : UInt8) :: ([] : List UInt8)).toArray) = Value.string z ∧ True) ∧ (op = (↑((0 : Nat) + (1 : Nat) + (1 : Nat) + (1 : Nat) + (1 : Nat) + (1 : Nat) + (1 : Nat)) : Int) → Value.string (ByteArray.mk ((115 : UInt8) :: (104 : UInt8) :: (108 : UInt8) :: ([] : List UInt8)).toArray) = Value.string z ∧ True) ∧ (op = (↑((0 : Nat) + (1 : Nat) + (1 : Nat) + (1 : Nat) + (1 : Nat) + (1 : Nat) + (1 : Nat) + (1 : Nat)) : Int) → Value.string (ByteArray.mk ((115 : UInt8) :: (104 : UInt8) :: (114 : UInt8) :: ([] : List UInt8)).toArray) = Value.string z ∧ True) ∧ (op = (↑((0 : Nat) + (1 : Nat) + (1 : Nat) + (1 : Nat) + (1 : Nat) + (1 : Nat) + (1 : Nat) + (1 : Nat) + (1 : Nat)) : Int) → Value.string (ByteArray.mk ((108 : UInt8) :: (100 : UInt8) :: ([] : List UInt8)).toArray) = Value.string z ∧ True) ∧ (op = (↑((0 : Nat) + (1 : Nat) + (1 : Nat) + (1 : Nat) + (1 : Nat) + (1 : Nat) + (1 : Nat) + (1 : Nat) + (1 : Nat) + (1 : Nat)) : Int) → Value.string (ByteArray.mk ((115 : UInt8) :: (116 : UInt8) :: ([] : List UInt8)).toArray) = Value.string z ∧ True) ∧ (op = (↑((0 : Nat) + (1 : Nat) + (1 : Nat) + (1 : Nat) + (1 : Nat) + (1 : Nat) + (1 : Nat) + (1 : Nat) + (1 : Nat) + (1 : Nat) + (1 : Nat)) : Int) → Value.string (ByteArray.mk ((99 : UInt8) :: (97 : UInt8) :: (115 : UInt8) :: ([] : List UInt8)).toArray) = Value.string z ∧ True) ∧ (op = (↑((0 : Nat) + (1 : Nat) + (1 : Nat) + (1 : Nat) + (1 : Nat) + (1 : Nat) + (1 : Nat) + (1 : Nat) + (1 : Nat) + (1 : Nat) + (1 : Nat) + (1 : Nat)) : Int) → Value.string (ByteArray.mk ((120 : UInt8) :: (97 : UInt8) :: (100 : UInt8) :: (100 : UInt8) :: ([] : List UInt8)).toArray) = Value.string z ∧ True) ∧ (op = (↑((0 : Nat) + (1 : Nat) + (1 : Nat) + (1 : Nat) + (1 : Nat) + (1 : Nat) + (1 : Nat) + (1 : Nat) + (1 : Nat) + (1 : Nat) + (1 : Nat) + (1 : Nat) + (1 : Nat)) : Int) → Value.string (ByteArray.mk ((99 : UInt8) :: (108 : UInt8) :: (119 : UInt8) :: (98 : UInt8) :: ([] : List UInt8)).toArray) = Value.string z ∧ True) ∧ (op = (↑((0 : Nat) + (1 : Nat) + (1 : Nat) + (1 : Nat) + (1 : Nat) + (1 : Nat) + (1 : Nat) + (1 : Nat) + (1 : Nat) + (1 : Nat) + (1 : Nat) + (1 : Nat) + (1 : Nat) + (1 : Nat)) : Int) → Value.string (ByteArray.mk ((111 : UInt8) :: (112 : UInt8) :: (116 : UInt8) :: ([] : List UInt8)).toArray) = Value.string z ∧ True) ∧ (op = (↑((0 : Nat) + (1 : Nat) + (1 : Nat) + (1 : Nat) + (1 : Nat) + (1 : Nat) + (1 : Nat) + (1 : Nat) + (1 : Nat) + (1 : Nat) + (1 : Nat) + (1 : Nat) + (1 : Nat) + (1 : Nat) + (1 : Nat)) : Int) → Value.string (ByteArray.mk ((102 : UInt8) :: (108 : UInt8) :: (117 : UInt8) :: (115 : UInt8) :: (104 : UInt8) :: ([] : List UInt8)).toArray) = Value.string z ∧ True) ∧ (op = (↑((0 : Nat) + (1 : Nat) + (1 : Nat) + (1 : Nat) + (1 : Nat) + (1 : Nat) + (1 : Nat) + (1 : Nat) + (1 : Nat) + (1 : Nat) + (1 : Nat) + (1 : Nat) + (1 : Nat) + (1 : Nat) + (1 : Nat) + (1 : Nat)) : Int) → Value.string (ByteArray.mk ((115 : UInt8) :: (102 : UInt8) :: (101 : UInt8) :: (110 : UInt8) :: (99 : UInt8) :: (101 : UInt8) :: ([] : List UInt8)).toArray) = Value.string z ∧ True) ∧ (op = (↑((0 : Nat) + (1 : Nat) + (1 : Nat) + (1 : Nat) + (1 : Nat) + (1 : Nat) + (1 : Nat) + (1 : Nat) + (1 : Nat) + (1 : Nat) + (1 : Nat) + (1 : Nat) + (1 : Nat) + (1 : Nat) + (1 : Nat) + (1 : Nat) + (1 : Nat)) : Int) → Value.string (ByteArray.mk ((109 : UInt8) :: (102 : UInt8) :: (101 : UInt8) :: (110 : UInt8) :: (99 : UInt8) :: (101 : UInt8) :: ([] : List UInt8)).toArray) = Value.string z ∧ True) ∧ (op = (↑((0 : Nat) + (1 : Nat) + (1 : Nat) + (1 : Nat) + (1 : Nat) + (1 : Nat) + (1 : Nat) + (1 : Nat) + (1 : Nat) + (1 : Nat) + (1 : Nat) + (1 : Nat) + (1 : Nat) + (1 : Nat) + (1 : Nat) + (1 : Nat) + (1 : Nat) + (1 : Nat)) : Int) → Value.string (ByteArray.mk ((106 : UInt8) :: (109 : UInt8) :: (112 : UInt8) :: ([] : List UInt8)).toArray) = Value.string z ∧ True) ∧ (op = (↑((0 : Nat) + (1 : Nat) + (1 : Nat) + (1 : Nat) + (1 : Nat) + (1 : Nat) + (1 : Nat) + (1 : Nat) + (1 : Nat) + (1 : Nat) + (1 : Nat) + (1 : Nat) + (1 : Nat) + (1 : Nat) + (1 : Nat) + (1 : Nat) + (1 : Nat) + (1 : Nat) + (1 : Nat)) : Int) → Value.string (ByteArray.mk ((98 : UInt8) :: (101 : UInt8) :: (113 : UInt8) :: ([] : List UInt8)).toArray) = Value.string z ∧ True) ∧ (op = (↑((0 : Nat) + (1 : Nat) + (1 : Nat) + (1 : Nat) + (1 : Nat) + (1 : Nat) + (1 : Nat) + (1 : Nat) + (1 : Nat) + (1 : Nat) + (1 : Nat) + (1 : Nat) + (1 : Nat) + (1 : Nat) + (1 : Nat) + (1 : Nat) + (1 : Nat) + (1 : Nat) + (1 : Nat) + (1 : Nat)) : Int) → Value.string (ByteArray.mk ((98 : UInt8) :: (110 : UInt8) :: (101 : UInt8) :: ([] : List UInt8)).toArray) = Value.string z ∧ True) ∧ (op = (↑((0 : Nat) + (1 : Nat) + (1 : Nat) + (1 : Nat) + (1 : Nat) + (1 : Nat) + (1 : Nat) + (1 : Nat) + (1 : Nat) + (1 : Nat) + (1 : Nat) + (1 : Nat) + (1 : Nat) + (1 : Nat) + (1 : Nat) + (1 : Nat) + (1 : Nat) + (1 : Nat) + (1 : Nat) + (1 : Nat) + (1 : Nat)) : Int) → Value.string (ByteArray.mk ((98 : UInt8) :: (108 : UInt8) :: (116 : UInt8) :: ([] : List UInt8)).toArray) = Value.string z ∧ True) ∧ (op = (↑((0 : Nat) + (1 : Nat) + (1 : Nat) + (1 : Nat) + (1 : Nat) + (1 : Nat) + (1 : Nat) + (1 : Nat) + (1 : Nat) + (1 : Nat) + (1 : Nat) + (1 : Nat) + (1 : Nat) + (1 : Nat) + (1 : Nat) + (1 : Nat) + (1 : Nat) + (1 : Nat) + (1 : Nat) + (1 : Nat) + (1 : Nat) + (1 : Nat)) : Int) → Value.string (ByteArray.mk ((116 : UInt8) :: (101 : UInt8) :: (108 : UInt8) :: (108 : UInt8) :: ([] : List UInt8)).toArray) = Value.string z ∧ True) ∧ (op = (↑((0 : Nat) + (1 : Nat) + (1 : Nat) + (1 : Nat) + (1 : Nat) + (1 : Nat) + (1 : Nat) + (1 : Nat) + (1 : Nat) + (1 : Nat) + (1 : Nat) + (1 : Nat) + (1 : Nat) + (1 : Nat) + (1 : Nat) + (1 : Nat) + (1 : Nat) + (1 : Nat) + (1 : Nat) + (1 : Nat) + (1 : Nat) + (1 : Nat) + (1 : Nat)) : Int) → Value.string (ByteArray.mk ((104 : UInt8) :: (97 : UInt8) :: (108 : UInt8) :: (116 : UInt8) :: ([] : List UInt8)).toArray) = Value.string z ∧ True) ∧ True)) = _) ?_
  have hz : nmF op = z := hz
  subst hz
  simp only [Bool.or_eq_true, Bool.or_eq_false_iff, decide_eq_true_eq, decide_eq_false_iff_not]
  refine ⟨fun h => ⟨congrArg _ (nmF_out (by omega)).symm, trivial⟩, fun h => ⟨by omega, ?_⟩⟩
  repeat' apply And.intro
  all_goals first | trivial | (rintro rfl; exact ⟨rfl, trivial⟩)
theorem v19 : Valid Tryz.prog 19 (.tot (tS [pI] [pS] nmF)) := by
  refine tS_ok mixed Tbl_ok N0_ok Tryz.func19 call19 rfl rfl rfl ?_
  rintro (op : Int) hr z hz
  refine ⟨noLoop, ?_⟩
  refine Eq.mp (by kernel_rfl : (((decide (op < (0 : Int)) || decide (op > (22 : Int))) = true → Value.string (ByteArray.mk ([] : List UInt8).toArray) = Value.string z ∧ True) ∧ ((decide (op < (0 : Int)) || decide (op > (22 : Int))) = false → ((0 : Int) ≤ op ∧ op < (↑nmL.length : Int)) ∧ ∀ (y : ByteArray), nmL[op.toNat]? = some y → Value.string y = Value.string z ∧ True)) = _) ?_
  have hz : nmF op = z := hz
  subst hz
  simp only [Bool.or_eq_true, Bool.or_eq_false_iff, decide_eq_true_eq, decide_eq_false_iff_not]
  refine ⟨fun h => ⟨congrArg _ (nmF_out (by omega)).symm, trivial⟩, fun h => ?_⟩
  have hl : nmL.length = 23 := rfl
  refine ⟨⟨by omega, by omega⟩, fun y hy => ⟨?_, trivial⟩⟩
  rw [nmF_in (by omega), List.getD_eq_getElem?_getD, hy]; rfl
/-- May a word be a label? -/
def labL (l : List UInt8) : Bool := l.all fun c => decide (97 ≤ c.toNat ∧ c.toNat ≤ 122)
def labF (w : ByteArray) : Bool := labL w.data.toList && decide (1 ≤ w.size ∧ w.size ≤ 8)
theorem size_list (s : ByteArray) : s.data.toList.length = s.size := Array.length_toList
theorem get_at {s : ByteArray} {k : Nat} {y : UInt8} (h : s[(k : Int).toNat]? = some y) : s.data.toList[k]? = some y := by
  rw [Int.toNat_natCast] at h
  exact (get_list _ _ _).1 h
theorem labL_take {l : List UInt8} {k : Nat} {y : UInt8} (h : labL (l.take k) = true) (hy : l[k]? = some y) (hp : 97 ≤ y.toNat ∧ y.toNat ≤ 122) : labL (l.take (k + 1)) = true := by
  rw [labL] at h ⊢
  rw [List.take_add_one, hy, List.all_append, h]
  simp [hp]
theorem labL_not {l : List UInt8} {k : Nat} {y : UInt8} (hy : l[k]? = some y) (hp : ¬ (97 ≤ y.toNat ∧ y.toNat ≤ 122)) : labL l = false := by
  rw [labL, List.all_eq_false]
  exact ⟨y, List.mem_of_getElem? hy, by simpa using hp⟩
abbrev lp38 (s : ByteArray) : Nat → Option LoopSp := fun _ => some { X := Nat, sl := fun k => [(0, .one (.val (.string s))), (5, .one (vi s.size)), (6, .one (vi k))], h := fun _ => [], nx := 0, inv := fun k => k ≤ s.size ∧ labL (s.data.toList.take k) = true, mu := fun k => s.size - k }
theorem v38 : Valid Tryz.prog 38 (.tot (tS [pS] [pB] labF)) := by
  refine tS_ok mixed Tbl_ok N0_ok Tryz.func38 call38 rfl rfl rfl ?_
  rintro (s : ByteArray) hr z hz
  refine ⟨lp38 s, ?_⟩
  refine Eq.mp (by kernel_rfl : ((∃ (x : Nat), (x ≤ s.size ∧ labL (List.take x s.data.toList) = true) ∧ Value.string s = Value.string s ∧ (↑s.size : Int) = (↑s.size : Int) ∧ (0 : Int) = (↑x : Int) ∧ True) ∧ ∀ (x : Nat), x ≤ s.size ∧ labL (List.take x s.data.toList) = true → (decide ((↑x : Int) < (↑s.size : Int)) = true → ((0 : Int) ≤ (↑x : Int) ∧ (↑x : Int) < (↑s.size : Int)) ∧ ∀ (y : UInt8), s[(↑x : Int).toNat]? = some y → (decide ((↑y.toNat : Int) < (97 : Int)) = true → false = z ∧ True) ∧ (decide ((↑y.toNat : Int) < (97 : Int)) = false → ((0 : Int) ≤ (↑x : Int) ∧ (↑x : Int) < (↑s.size : Int)) ∧ ∀ (y : UInt8), s[(↑x : Int).toNat]? = some y → (decide ((↑y.toNat : Int) > (122 : Int)) = true → false = z ∧ True) ∧ (decide ((↑y.toNat : Int) > (122 : Int)) = false → ((-9223372036854775808 : Int) ≤ (↑x : Int) + (1 : Int) ∧ (↑x : Int) + (1 : Int) ≤ (9223372036854775807 : Int)) ∧ ∃ (y : Nat), (y ≤ s.size ∧ labL (List.take y s.data.toList) = true) ∧ s.size - y < s.size - x ∧ Value.string s = Value.string s ∧ (↑s.size : Int) = (↑s.size : Int) ∧ (↑x : Int) + (1 : Int) = (↑y : Int) ∧ True))) ∧ (decide ((↑x : Int) < (↑s.size : Int)) = false → (!s.toList == (ByteArray.mk ([] : List UInt8).toArray).toList && decide ((↑s.size : Int) ≤ (8 : Int))) = z ∧ True)) = _) ?_
  have hz : labF s = z := hz
  subst hz
  have hs : s.size ≤ maxLen := hr
  have hmx : (maxLen : Int) ≤ 9223372036854775807 := by decide
  refine ⟨⟨0, ⟨Nat.zero_le _, rfl⟩, rfl, rfl, rfl, trivial⟩, fun x h => ⟨fun h1 => ⟨by simp only [decide_eq_true_eq] at h1; omega, fun y hy => ?_⟩, fun h1 => ⟨?_, trivial⟩⟩⟩
  · have h1 : x < s.size := by simp only [decide_eq_true_eq] at h1; omega
    have hy' := get_at hy
    refine ⟨fun h2 => ⟨?_, trivial⟩, fun h2 => ⟨by omega, fun y2 hy2 => ?_⟩⟩
    · rw [labF, labL_not hy' (by simp only [decide_eq_true_eq] at h2; omega), Bool.false_and]
    · rw [hy] at hy2
      cases hy2
      refine ⟨fun h3 => ⟨?_, trivial⟩, fun h3 => ⟨by omega, x + 1, ⟨h1, labL_take h.2 hy' ?_⟩, by omega, rfl, rfl, by simp, trivial⟩⟩
      · rw [labF, labL_not hy' (by simp only [decide_eq_true_eq] at h3; omega), Bool.false_and]
      · simp only [decide_eq_false_iff_not] at h2 h3; omega
  · have h1 : x = s.size := by simp only [decide_eq_false_iff_not] at h1; omega
    subst h1
    have h2 := h.2
    rw [List.take_of_length_le (by rw [size_list]; exact Nat.le_refl _)] at h2
    rw [labF, h2, Bool.true_and, Bool.eq_iff_iff]
    simp only [Bool.and_eq_true, Bool.not_eq_true', decide_eq_true_eq, Bool.eq_false_iff, ne_eq, bytes_eq]
    have : s = ⟨([] : List UInt8).toArray⟩ ↔ s.size = 0 := by
      constructor
      · intro e; rw [e]; rfl
      · intro e
        have h1 : s.data = #[] := Array.eq_empty_of_size_eq_zero e
        cases s; simp_all
    rw [this]
    omega
abbrev lp21 (s : ByteArray) : Nat → Option LoopSp := fun _ => some { X := Nat, sl := fun k => [(0, .one (.val (.string s))), (3, .one (vi k))], h := fun _ => [], nx := 0, inv := fun k => k ≤ s.size ∧ labL (s.data.toList.take k) = true, mu := fun k => s.size - k }
theorem v21 : Valid Tryz.prog 21 (.tot (tS [pS] [pB] labF)) := by
  refine tS_ok mixed Tbl_ok N0_ok Tryz.func21 call21 rfl rfl rfl ?_
  rintro (s : ByteArray) hr z hz
  refine ⟨lp21 s, ?_⟩
  refine Eq.mp (by kernel_rfl : ((∃ (x : Nat), (x ≤ s.size ∧ labL (List.take x s.data.toList) = true) ∧ Value.string s = Value.string s ∧ (0 : Int) = (↑x : Int) ∧ True) ∧ ∀ (x : Nat), x ≤ s.size ∧ labL (List.take x s.data.toList) = true → (decide ((↑x : Int) < (↑s.size : Int)) = true → ((0 : Int) ≤ (↑x : Int) ∧ (↑x : Int) < (↑s.size : Int)) ∧ ∀ (y : UInt8), s[(↑x : Int).toNat]? = some y → (decide ((↑y.toNat : Int) < (97 : Int)) = true → false = z ∧ True) ∧ (decide ((↑y.toNat : Int) < (97 : Int)) = false → ((0 : Int) ≤ (↑x : Int) ∧ (↑x : Int) < (↑s.size : Int)) ∧ ∀ (y : UInt8), s[(↑x : Int).toNat]? = some y → (decide ((↑y.toNat : Int) > (122 : Int)) = true → false = z ∧ True) ∧ (decide ((↑y.toNat : Int) > (122 : Int)) = false → ((-9223372036854775808 : Int) ≤ (↑x : Int) + (1 : Int) ∧ (↑x : Int) + (1 : Int) ≤ (9223372036854775807 : Int)) ∧ ∃ (y : Nat), (y ≤ s.size ∧ labL (List.take y s.data.toList) = true) ∧ s.size - y < s.size - x ∧ Value.string s = Value.string s ∧ (↑x : Int) + (1 : Int) = (↑y : Int) ∧ True))) ∧ (decide ((↑x : Int) < (↑s.size : Int)) = false → (decide ((↑s.size : Int) ≥ (1 : Int)) && decide ((↑s.size : Int) ≤ (8 : Int))) = z ∧ True)) = _) ?_
  have hz : labF s = z := hz
  subst hz
  have hs : s.size ≤ maxLen := hr
  have hmx : (maxLen : Int) ≤ 9223372036854775807 := by decide
  refine ⟨⟨0, ⟨Nat.zero_le _, rfl⟩, rfl, rfl, trivial⟩, fun x h => ⟨fun h1 => ⟨by simp only [decide_eq_true_eq] at h1; omega, fun y hy => ?_⟩, fun h1 => ⟨?_, trivial⟩⟩⟩
  · have h1 : x < s.size := by simp only [decide_eq_true_eq] at h1; omega
    have hy' := get_at hy
    refine ⟨fun h2 => ⟨?_, trivial⟩, fun h2 => ⟨by omega, fun y2 hy2 => ?_⟩⟩
    · rw [labF, labL_not hy' (by simp only [decide_eq_true_eq] at h2; omega), Bool.false_and]
    · rw [hy] at hy2
      cases hy2
      refine ⟨fun h3 => ⟨?_, trivial⟩, fun h3 => ⟨by omega, x + 1, ⟨h1, labL_take h.2 hy' ?_⟩, by omega, rfl, by simp, trivial⟩⟩
      · rw [labF, labL_not hy' (by simp only [decide_eq_true_eq] at h3; omega), Bool.false_and]
      · simp only [decide_eq_false_iff_not] at h2 h3; omega
  · have h1 : x = s.size := by simp only [decide_eq_false_iff_not] at h1; omega
    subst h1
    have h2 := h.2
    rw [List.take_of_length_le (by rw [size_list]; exact Nat.le_refl _)] at h2
    rw [labF, h2, Bool.true_and, Bool.eq_iff_iff]
    simp only [Bool.and_eq_true, decide_eq_true_eq]
    omega
/-- A register's number. -/
def regW (w : ByteArray) : Option Int := match w.data.toList with | [c, d] => if c = 114 ∧ 48 ≤ d.toNat ∧ d.toNat ≤ 55 then some ((d.toNat : Int) - 48) else none | _ => none
def regR (o : Option Int) : Int × Bool := match o with | some n => (n, true) | none => (0, false)
theorem v59 : Valid Tryz.prog 59 (.tot (tS [pS] [pI, pB] fun w => regR (regW w))) := by
  refine tS_ok mixed Tbl_ok N0_ok Tryz.func59 call59 rfl rfl rfl ?_
  rintro (s : ByteArray) hr z hz
  refine ⟨noLoop, ?_⟩
  refine Eq.mp (by kernel_rfl : ((((↑s.size : Int) != (2 : Int)) = true → (0 : Int) = z.fst ∧ false = z.snd ∧ True) ∧ (((↑s.size : Int) != (2 : Int)) = false → ((0 : Int) ≤ (0 : Int) ∧ (0 : Int) < (↑s.size : Int)) ∧ ∀ (y : UInt8), s[Int.toNat (0 : Int)]? = some y → (((↑y.toNat : Int) != (114 : Int)) = true → (0 : Int) = z.fst ∧ false = z.snd ∧ True) ∧ (((↑y.toNat : Int) != (114 : Int)) = false → ((0 : Int) ≤ (1 : Int) ∧ (1 : Int) < (↑s.size : Int)) ∧ ∀ (y : UInt8), s[Int.toNat (1 : Int)]? = some y → (decide ((↑y.toNat : Int) < (48 : Int)) = true → (0 : Int) = z.fst ∧ false = z.snd ∧ True) ∧ (decide ((↑y.toNat : Int) < (48 : Int)) = false → ((0 : Int) ≤ (1 : Int) ∧ (1 : Int) < (↑s.size : Int)) ∧ ∀ (y : UInt8), s[Int.toNat (1 : Int)]? = some y → (decide ((↑y.toNat : Int) ≥ (56 : Int)) = true → (0 : Int) = z.fst ∧ false = z.snd ∧ True) ∧ (decide ((↑y.toNat : Int) ≥ (56 : Int)) = false → ((0 : Int) ≤ (1 : Int) ∧ (1 : Int) < (↑s.size : Int)) ∧ ∀ (y : UInt8), s[Int.toNat (1 : Int)]? = some y → IntKind.u8.wrap ((↑y.toNat : Int) - (48 : Int)) = z.fst ∧ true = z.snd ∧ True))))) = _) ?_
  have hz : regR (regW s) = z := hz
  subst hz
  have hsz := size_list s
  rcases hl : s.data.toList with _ | ⟨c, _ | ⟨d, _ | ⟨e, r⟩⟩⟩
  case cons.cons.nil =>
    have h0 : ∀ y : UInt8, s[Int.toNat 0]? = some y → c = y := fun y hy => by
      have := get_at (k := 0) hy
      rw [hl] at this; exact Option.some.inj this
    have h1 : ∀ y : UInt8, s[Int.toNat 1]? = some y → d = y := fun y hy => by
      have := get_at (k := 1) hy
      rw [hl] at this; exact Option.some.inj this
    rw [hl] at hsz
    have e2 : s.size = 2 := hsz.symm
    rw [e2]
    refine ⟨fun h => absurd h (by decide), fun _ => ⟨by omega, fun y hy => ?_⟩⟩
    obtain rfl := h0 y hy
    rw [regW, hl]
    dsimp only
    refine ⟨fun h => ?_, fun h => ⟨by omega, fun y hy => ?_⟩⟩
    · rw [if_neg]
      · exact ⟨rfl, rfl, trivial⟩
      · rintro ⟨rfl, _⟩; exact absurd h (by decide)
    obtain rfl := h1 y hy
    have hc : c = 114 := UInt8.toNat_inj.1 (by simp only [bne_eq_false_iff_eq] at h; show c.toNat = 114; omega)
    subst hc
    refine ⟨fun h => ?_, fun h => ⟨by omega, fun y hy => ?_⟩⟩
    · rw [if_neg (by simp only [decide_eq_true_eq] at h; omega)]; exact ⟨rfl, rfl, trivial⟩
    obtain rfl := h1 y hy
    have hb : 48 ≤ d.toNat := by simp only [decide_eq_false_iff_not] at h; omega
    refine ⟨fun h => ?_, fun h => ⟨by omega, fun y hy => ?_⟩⟩
    · rw [if_neg (by simp only [decide_eq_true_eq] at h; omega)]; exact ⟨rfl, rfl, trivial⟩
    obtain rfl := h1 y hy
    rw [if_pos ⟨rfl, hb, by simp only [decide_eq_false_iff_not] at h; omega⟩]
    refine ⟨?_, rfl, trivial⟩
    simp only [decide_eq_false_iff_not] at h
    show IntKind.u8.wrap _ = _
    rw [IntKind.wrap_u8]
    show _ = (d.toNat : Int) - 48
    omega
  all_goals
    rw [hl] at hsz
    simp only [List.length_nil, List.length_cons] at hsz
    have e : regR (regW s) = (0, false) := by rw [regW, hl]; rfl
    rw [e]
    refine ⟨fun _ => ⟨rfl, rfl, trivial⟩, fun h => ?_⟩
    simp only [bne_eq_false_iff_eq] at h
    omega
abbrev shM : Sh := .pair .str (.int .i64)
abbrev pMs : PS := (false, .sl shM)
abbrev MN := ByteArray × Int
def findF (ms : List MN) (w : ByteArray) : Int := (fndM .str (.int .i64) ms w).getD (-1)
abbrev lp22 (ms : List MN) (w : ByteArray) : Nat → Option LoopSp := fun _ => some { X := Nat, sl := fun k => [(0, .one (.rd shM ms)), (1, .one (.val (.string w))), (5, .one (vi k))], h := fun _ => [], nx := 0, inv := fun k => k ≤ ms.length ∧ findF ms w = findF (ms.drop k) w, mu := fun k => ms.length - k }
theorem v22 : Valid Tryz.prog 22 (.tot (tS [pMs, pS] [pI] fun x => findF x.1 x.2)) := by
  refine tS_ok mixed Tbl_ok N0_ok Tryz.func22 call22 rfl rfl rfl ?_
  rintro ⟨(ms : List MN), (w : ByteArray)⟩ hr z hz
  refine ⟨lp22 ms w, ?_⟩
  refine Eq.mp (by kernel_rfl : ((∃ (x : Nat), (x ≤ ms.length ∧ findF ms w = findF (List.drop x ms) w) ∧ ms ≍ ms ∧ Value.string w = Value.string w ∧ (0 : Int) = (↑x : Int) ∧ True) ∧ ∀ (x : Nat), x ≤ ms.length ∧ findF ms w = findF (List.drop x ms) w → (decide ((↑x : Int) < (↑ms.length : Int)) = true → ((0 : Int) ≤ (↑x : Int) ∧ (↑x : Int) < (↑ms.length : Int)) ∧ ∀ (y : ByteArray × Int), ms[(↑x : Int).toNat]? = some y → ((y.fst.toList == w.toList) = true → ((0 : Int) ≤ (↑x : Int) ∧ (↑x : Int) < (↑ms.length : Int)) ∧ ∀ (y : ByteArray × Int), ms[(↑x : Int).toNat]? = some y → y.snd = z ∧ True) ∧ ((y.fst.toList == w.toList) = false → ((-9223372036854775808 : Int) ≤ (↑x : Int) + (1 : Int) ∧ (↑x : Int) + (1 : Int) ≤ (9223372036854775807 : Int)) ∧ ∃ (y : Nat), (y ≤ ms.length ∧ findF ms w = findF (List.drop y ms) w) ∧ ms.length - y < ms.length - x ∧ ms ≍ ms ∧ Value.string w = Value.string w ∧ (↑x : Int) + (1 : Int) = (↑y : Int) ∧ True)) ∧ (decide ((↑x : Int) < (↑ms.length : Int)) = false → (-1 : Int) = z ∧ True)) = _) ?_
  have hz : findF ms w = z := hz
  subst hz
  have hm : ms.length ≤ maxLen := hr.1.1
  have hmx : (maxLen : Int) ≤ 9223372036854775807 := by decide
  refine ⟨⟨0, ⟨Nat.zero_le _, rfl⟩, HEq.rfl, rfl, rfl, trivial⟩, fun x h => ⟨fun h1 => ⟨by simp only [decide_eq_true_eq] at h1; omega, fun y hy => ?_⟩, fun h1 => ⟨?_, trivial⟩⟩⟩
  · have h1 : x < ms.length := by simp only [decide_eq_true_eq] at h1; omega
    rw [Int.toNat_natCast] at hy
    have hd : ms.drop x = y :: ms.drop (x + 1) := by
      rw [List.drop_eq_getElem_cons h1]
      rw [List.getElem?_eq_getElem h1] at hy
      rw [Option.some.inj hy]
    have e : findF ms w = if y.1 = w then y.2 else findF (ms.drop (x + 1)) w := by
      rw [h.2, hd, findF, findF, fndM]
      simp only [keyB, decide_eq_true_eq]
      split <;> rfl
    refine ⟨fun h2 => ⟨by omega, fun y2 hy2 => ⟨?_, trivial⟩⟩, fun h2 => ⟨by omega, x + 1, ⟨h1, ?_⟩, by omega, HEq.rfl, rfl, by simp, trivial⟩⟩
    · rw [Int.toNat_natCast, hy] at hy2
      cases hy2
      rw [e, if_pos (bytes_eq.1 h2)]
    · rw [e, if_neg (fun q => by rw [bytes_eq.2 q] at h2; cases h2)]
  · have h1 : x = ms.length := by simp only [decide_eq_false_iff_not] at h1; omega
    rw [h.2, List.drop_eq_nil_iff.2 (by omega)]; rfl
def eqN (x : List IN × List IN) : Bool := decide (x.1 = x.2)
def eqW (x : List Int × List Int) : Bool := decide (x.1 = x.2)
abbrev lp12 {a : Sh} (l m : List a.T) : Nat → Option LoopSp := fun _ => some { X := Nat, sl := fun k => [(0, .one (.rd a l)), (1, .one (.rd a m)), (5, .one (vi k))], h := fun _ => [], nx := 0, inv := fun k => k ≤ l.length ∧ l.take k = m.take k ∧ l.length = m.length, mu := fun k => l.length - k }
theorem eq_not {α : Type} [DecidableEq α] {l m : List α} {x : Nat} {y z : α} (hy : l[x]? = some y) (hz : m[x]? = some z) (h : y ≠ z) : decide (l = m) = false := by
  rw [decide_eq_false_iff_not]
  rintro rfl
  rw [hy] at hz
  exact h (Option.some.inj hz)
theorem eq_go {α : Type} {l m : List α} {x : Nat} {y : α} (h : l.take x = m.take x) (hy : l[x]? = some y) (hz : m[x]? = some y) : l.take (x + 1) = m.take (x + 1) := by
  rw [List.take_add_one, List.take_add_one, h, hy, hz]
theorem eq_end {α : Type} [DecidableEq α] {l m : List α} {x : Nat} (h : l.take x = m.take x) (hl : l.length = m.length) (hx : l.length ≤ x) : decide (l = m) = true := by
  rw [List.take_of_length_le hx, List.take_of_length_le (by omega)] at h
  rw [h, decide_eq_true rfl]
theorem eq_len {α : Type} [DecidableEq α] {l m : List α} (h : l.length ≠ m.length) : decide (l = m) = false := by
  rw [decide_eq_false_iff_not]; rintro rfl; exact h rfl
theorem v12 : Valid Tryz.prog 12 (.tot (tS [pNs, pNs] [pB] eqN)) := by
  refine tS_ok mixed Tbl_ok N0_ok Tryz.func12 call12 rfl rfl rfl ?_
  rintro ⟨(l : List IN), (m : List IN)⟩ hr z hz
  refine ⟨lp12 (a := shI) l m, ?_⟩
  refine Eq.mp (by kernel_rfl : ((((↑l.length : Int) != (↑m.length : Int)) = true → false = z ∧ True) ∧ (((↑l.length : Int) != (↑m.length : Int)) = false → (∃ (x : Nat), (x ≤ l.length ∧ List.take x l = List.take x m ∧ l.length = m.length) ∧ l ≍ l ∧ m ≍ m ∧ (0 : Int) = (↑x : Int) ∧ True) ∧ ∀ (x : Nat), x ≤ l.length ∧ List.take x l = List.take x m ∧ l.length = m.length → (decide ((↑x : Int) < (↑l.length : Int)) = true → ((0 : Int) ≤ (↑x : Int) ∧ (↑x : Int) < (↑l.length : Int)) ∧ ∀ (y : Int × Int × Int × Int × Int), l[(↑x : Int).toNat]? = some y → ((0 : Int) ≤ (↑x : Int) ∧ (↑x : Int) < (↑m.length : Int)) ∧ ∀ (y_1 : Int × Int × Int × Int × Int), m[(↑x : Int).toNat]? = some y_1 → ((!(y.fst == y_1.fst && (y.snd.fst == y_1.snd.fst && (y.snd.snd.fst == y_1.snd.snd.fst && (y.snd.snd.snd.fst == y_1.snd.snd.snd.fst && y.snd.snd.snd.snd == y_1.snd.snd.snd.snd))))) = true → false = z ∧ True) ∧ ((!(y.fst == y_1.fst && (y.snd.fst == y_1.snd.fst && (y.snd.snd.fst == y_1.snd.snd.fst && (y.snd.snd.snd.fst == y_1.snd.snd.snd.fst && y.snd.snd.snd.snd == y_1.snd.snd.snd.snd))))) = false → ((-9223372036854775808 : Int) ≤ (↑x : Int) + (1 : Int) ∧ (↑x : Int) + (1 : Int) ≤ (9223372036854775807 : Int)) ∧ ∃ (y : Nat), (y ≤ l.length ∧ List.take y l = List.take y m ∧ l.length = m.length) ∧ l.length - y < l.length - x ∧ l ≍ l ∧ m ≍ m ∧ (↑x : Int) + (1 : Int) = (↑y : Int) ∧ True)) ∧ (decide ((↑x : Int) < (↑l.length : Int)) = false → true = z ∧ True))) = _) ?_
  have hz : eqN (l, m) = z := hz
  subst hz
  have hm : l.length ≤ maxLen := hr.1.1
  have hmx : (maxLen : Int) ≤ 9223372036854775807 := by decide
  refine ⟨fun h => ⟨(eq_len fun e => bne_iff_ne.1 h (congrArg Int.ofNat e)).symm, trivial⟩, fun h => ?_⟩
  have hl : l.length = m.length := Int.ofNat.inj (bne_eq_false_iff_eq.1 h)
  refine ⟨⟨0, ⟨Nat.zero_le _, by simp, hl⟩, HEq.rfl, HEq.rfl, rfl, trivial⟩, fun x h => ⟨fun h1 => ⟨by simp only [decide_eq_true_eq] at h1; omega, fun y hy => ⟨by simp only [decide_eq_true_eq] at h1; omega, fun y2 hy2 => ?_⟩⟩, fun h1 => ⟨(eq_end h.2.1 hl (by simp only [decide_eq_false_iff_not] at h1; omega)).symm, trivial⟩⟩⟩
  have h1 : x < l.length := by simp only [decide_eq_true_eq] at h1; omega
  rw [Int.toNat_natCast] at hy hy2
  have e : (y.fst == y2.fst && (y.snd.fst == y2.snd.fst && (y.snd.snd.fst == y2.snd.snd.fst && (y.snd.snd.snd.fst == y2.snd.snd.snd.fst && y.snd.snd.snd.snd == y2.snd.snd.snd.snd)))) = decide (y = y2) := by
    obtain ⟨a, b, c, d, e⟩ := y
    rw [Bool.eq_iff_iff]
    simp [Prod.ext_iff]
  rw [e]
  refine ⟨fun h2 => ⟨(eq_not hy hy2 (by simpa using h2)).symm, trivial⟩, fun h2 => ⟨by omega, x + 1, ⟨h1, eq_go h.2.1 hy (by rw [hy2]; congr 1; symm; simpa using h2), hl⟩, by omega, HEq.rfl, HEq.rfl, by simp, trivial⟩⟩
theorem v17 : Valid Tryz.prog 17 (.tot (tS [pUs, pUs] [pB] eqW)) := by
  refine tS_ok mixed Tbl_ok N0_ok Tryz.func17 call17 rfl rfl rfl ?_
  rintro ⟨(l : List Int), (m : List Int)⟩ hr z hz
  refine ⟨lp12 (a := .int .u64) l m, ?_⟩
  refine Eq.mp (by kernel_rfl : ((((↑l.length : Int) != (↑m.length : Int)) = true → false = z ∧ True) ∧ (((↑l.length : Int) != (↑m.length : Int)) = false → (∃ (x : Nat), (x ≤ l.length ∧ List.take x l = List.take x m ∧ l.length = m.length) ∧ l ≍ l ∧ m ≍ m ∧ (0 : Int) = (↑x : Int) ∧ True) ∧ ∀ (x : Nat), x ≤ l.length ∧ List.take x l = List.take x m ∧ l.length = m.length → (decide ((↑x : Int) < (↑l.length : Int)) = true → ((0 : Int) ≤ (↑x : Int) ∧ (↑x : Int) < (↑l.length : Int)) ∧ ∀ (y : Int), l[(↑x : Int).toNat]? = some y → ((0 : Int) ≤ (↑x : Int) ∧ (↑x : Int) < (↑m.length : Int)) ∧ ∀ (y_1 : Int), m[(↑x : Int).toNat]? = some y_1 → ((y != y_1) = true → false = z ∧ True) ∧ ((y != y_1) = false → ((-9223372036854775808 : Int) ≤ (↑x : Int) + (1 : Int) ∧ (↑x : Int) + (1 : Int) ≤ (9223372036854775807 : Int)) ∧ ∃ (y : Nat), (y ≤ l.length ∧ List.take y l = List.take y m ∧ l.length = m.length) ∧ l.length - y < l.length - x ∧ l ≍ l ∧ m ≍ m ∧ (↑x : Int) + (1 : Int) = (↑y : Int) ∧ True)) ∧ (decide ((↑x : Int) < (↑l.length : Int)) = false → true = z ∧ True))) = _) ?_
  have hz : eqW (l, m) = z := hz
  subst hz
  have hm : l.length ≤ maxLen := hr.1.1
  have hmx : (maxLen : Int) ≤ 9223372036854775807 := by decide
  refine ⟨fun h => ⟨(eq_len fun e => bne_iff_ne.1 h (congrArg Int.ofNat e)).symm, trivial⟩, fun h => ?_⟩
  have hl : l.length = m.length := Int.ofNat.inj (bne_eq_false_iff_eq.1 h)
  refine ⟨⟨0, ⟨Nat.zero_le _, by simp, hl⟩, HEq.rfl, HEq.rfl, rfl, trivial⟩, fun x h => ⟨fun h1 => ⟨by simp only [decide_eq_true_eq] at h1; omega, fun y hy => ⟨by simp only [decide_eq_true_eq] at h1; omega, fun y2 hy2 => ?_⟩⟩, fun h1 => ⟨(eq_end h.2.1 hl (by simp only [decide_eq_false_iff_not] at h1; omega)).symm, trivial⟩⟩⟩
  have h1 : x < l.length := by simp only [decide_eq_true_eq] at h1; omega
  rw [Int.toNat_natCast] at hy hy2
  refine ⟨fun h2 => ⟨(eq_not hy hy2 (by simpa using h2)).symm, trivial⟩, fun h2 => ⟨by omega, x + 1, ⟨h1, eq_go h.2.1 hy (by rw [hy2]; congr 1; symm; simpa using h2), hl⟩, by omega, HEq.rfl, HEq.rfl, by simp, trivial⟩⟩
abbrev N1 : List (Nat × Spec) := (18, .tot (tS [pI] [pS] nmF)) :: (19, .tot (tS [pI] [pS] nmF)) :: (38, .tot (tS [pS] [pB] labF)) :: (21, .tot (tS [pS] [pB] labF)) :: (59, .tot (tS [pS] [pI, pB] fun w => regR (regW w))) :: (22, .tot (tS [pMs, pS] [pI] fun x => findF x.1 x.2)) :: (12, .tot (tS [pNs, pNs] [pB] eqN)) :: (17, .tot (tS [pUs, pUs] [pB] eqW)) :: N0
theorem N1_all : ∀ p ∈ N1, Valid Tryz.prog p.1 p.2 := vcons v18 (vcons v19 (vcons v38 (vcons v21 (vcons v59 (vcons v22 (vcons v12 (vcons v17 N0_all)))))))
theorem N1_ok : ∀ f S, spL N1 f = some S → Valid Tryz.prog f S := spL_ok N1_all
/-- The words of instructions. -/
def codeF (l : List IN) : List Int × Int := match l.all goodF with | true => (match decide (l.length ≤ 4096) with | true => (l.map encW, 0) | false => ([], 3)) | false => ([], 11)
theorem codeF_bad {l : List IN} {x : Nat} {y : IN} (hy : l[x]? = some y) (h : goodF y = false) : codeF l = ([], 11) := by
  have : l.all goodF = false := by rw [List.all_eq_false]; exact ⟨y, List.mem_of_getElem? hy, by simp [h]⟩
  rw [codeF, this]
theorem codeF_end {l : List IN} {x : Nat} (hx : l.length ≤ x) (h : (l.take x).all goodF = true) : codeF l = (match decide (l.length ≤ 4096) with | true => (l.map encW, 0) | false => ([], 3)) := by
  rw [List.take_of_length_le hx] at h
  rw [codeF, h]
theorem all_take {α : Type} {p : α → Bool} {l : List α} {k : Nat} {y : α} (h : (l.take k).all p = true) (hy : l[k]? = some y) (hp : p y = true) : (l.take (k + 1)).all p = true := by
  rw [List.take_add_one, hy, List.all_append, h]
  simp [hp]
theorem map_take {α β : Type} {f : α → β} {l : List α} {k : Nat} {y : α} (hy : l[k]? = some y) : (l.take (k + 1)).map f = (l.take k).map f ++ [f y] := by
  rw [List.take_add_one, hy, List.map_append]; rfl
abbrev lp13 (l : List IN) : Nat → Option LoopSp := fun _ => some { X := Nat, sl := fun k => [(4, .one (.sl 0)), (9, .one (.rd shI l)), (10, .one (vi l.length)), (11, .one (vi k))], h := fun k => [(0, .own 67 (.int .u64) ((l.take k).map encW))], nx := 1, inv := fun k => k ≤ l.length ∧ (l.take k).all goodF = true, mu := fun k => l.length - k }
theorem codeF_step {l : List IN} {x : Nat} {y : IN} (hx : x ≤ l.length ∧ (l.take x).all goodF = true) (hy : l[x]? = some y) (hp : l.length ≤ 1000000) {K : Nat → Prop} (hK : x + 1 ≤ l.length ∧ (l.take (x + 1)).all goodF = true → ((l.take x).map encW ++ [(encF y).1] = (l.take (x + 1)).map encW) → K (x + 1)) :
    (((encF y).2 != 0) = true → codeF l = ([], 11) ∧ (encF y).2 = 11) ∧ (((encF y).2 != 0) = false → (((l.take x).map encW).length + [(encF y).1].length) * 8 ≤ 140737488355328 ∧ K (x + 1)) := by
  have hlt := (List.getElem?_eq_some_iff.1 hy).1
  cases hg : goodF y with
  | false =>
    rw [encF_f hg]
    exact ⟨fun _ => ⟨codeF_bad hy hg, rfl⟩, fun h => by cases h⟩
  | true =>
    rw [encF_t hg]
    refine ⟨fun h => (by cases h), fun _ => ⟨?_, hK ⟨hlt, all_take hx.2 hy hg⟩ ?_⟩⟩
    · simp only [List.length_map, List.length_take, List.length_singleton]; omega
    · rw [map_take hy]
      rw [encF_t hg]
theorem v13 : Valid Tryz.prog 13 (.pre (rS [pNs] [pUs, pI] (fun l => List.length l ≤ 1000000) (fun l y => y = codeF l))) := by
  refine rS_ok mixed Tbl_ok N1_ok Tryz.func13 call13 rfl ?_
  rintro (l : List IN) hr hp
  refine ⟨lp13 l, ?_⟩
  refine Eq.mp (by kernel_rfl : ((∃ (x : Nat), (x ≤ l.length ∧ (List.take x l).all goodF = true) ∧ l ≍ l ∧ (↑l.length : Int) = (↑l.length : Int) ∧ (0 : Int) = (↑x : Int) ∧ List.map encW (List.take x l) = ([] : List Int) ∧ True) ∧ ∀ (x : Nat), x ≤ l.length ∧ (List.take x l).all goodF = true → (decide ((↑x : Int) < (↑l.length : Int)) = true → ((0 : Int) ≤ (↑x : Int) ∧ (↑x : Int) < (↑l.length : Int)) ∧ ∀ (y : Int × Int × Int × Int × Int), l[(↑x : Int).toNat]? = some y → (((encF (y.fst, y.snd.fst, y.snd.snd.fst, y.snd.snd.snd.fst, y.snd.snd.snd.snd)).snd != (0 : Int)) = true → ∃ (y_1 : Tup (pUs :: pI :: ([] : List PS))), y_1 = codeF l ∧ y_1.fst = ([] : List Int) ∧ (encF (y.fst, y.snd.fst, y.snd.snd.fst, y.snd.snd.snd.fst, y.snd.snd.snd.snd)).snd = y_1.snd ∧ True) ∧ (((encF (y.fst, y.snd.fst, y.snd.snd.fst, y.snd.snd.snd.fst, y.snd.snd.snd.snd)).snd != (0 : Int)) = false → ((List.map encW (List.take x l)).length + ((encF (y.fst, y.snd.fst, y.snd.snd.fst, y.snd.snd.snd.fst, y.snd.snd.snd.snd)).fst :: ([] : List Int)).length) * (8 : Nat) ≤ (140737488355328 : Nat) ∧ ((-9223372036854775808 : Int) ≤ (↑x : Int) + (1 : Int) ∧ (↑x : Int) + (1 : Int) ≤ (9223372036854775807 : Int)) ∧ ∃ (y_1 : Nat), (y_1 ≤ l.length ∧ (List.take y_1 l).all goodF = true) ∧ l.length - y_1 < l.length - x ∧ l ≍ l ∧ (↑l.length : Int) = (↑l.length : Int) ∧ (↑x : Int) + (1 : Int) = (↑y_1 : Int) ∧ List.map encW (List.take x l) ++ (encF (y.fst, y.snd.fst, y.snd.snd.fst, y.snd.snd.snd.fst, y.snd.snd.snd.snd)).fst :: ([] : List Int) ≍ List.map encW (List.take y_1 l) ∧ True)) ∧ (decide ((↑x : Int) < (↑l.length : Int)) = false → (decide ((↑(List.map encW (List.take x l)).length : Int) > (4096 : Int)) = true → ∃ (y : Tup (pUs :: pI :: ([] : List PS))), y = codeF l ∧ y.fst = ([] : List Int) ∧ (3 : Int) = y.snd ∧ True) ∧ (decide ((↑(List.map encW (List.take x l)).length : Int) > (4096 : Int)) = false → ∃ (y : Tup (pUs :: pI :: ([] : List PS))), y = codeF l ∧ List.map encW (List.take x l) ≍ y.fst ∧ (0 : Int) = y.snd ∧ True))) = _) ?_
  have hp : l.length ≤ 1000000 := hp
  refine ⟨⟨0, ⟨Nat.zero_le _, rfl⟩, HEq.rfl, rfl, rfl, rfl, trivial⟩, fun x h => ⟨fun h1 => ⟨by simp only [decide_eq_true_eq] at h1; omega, fun y hy => ?_⟩, fun h1 => ?_⟩⟩
  · rw [Int.toNat_natCast] at hy
    obtain ⟨k1, k2⟩ := codeF_step (K := fun z => (-9223372036854775808 ≤ (x : Int) + 1 ∧ (x : Int) + 1 ≤ 9223372036854775807) ∧ z = x + 1 ∧ (z ≤ l.length ∧ (l.take z).all goodF = true) ∧ (l.take x).map encW ++ [(encF y).1] = (l.take z).map encW) h hy hp (fun a b => ⟨by omega, rfl, a, b⟩)
    refine ⟨fun h2 => ?_, fun h2 => ?_⟩
    · obtain ⟨e1, e2⟩ := k1 h2
      exact ⟨_, rfl, by rw [e1], by rw [e1]; exact e2, trivial⟩
    · obtain ⟨a, b, _, c, d⟩ := k2 h2
      exact ⟨a, b, x + 1, c, by omega, HEq.rfl, rfl, by simp, heq_of_eq d, trivial⟩
  · have h1 : l.length ≤ x := by simp only [decide_eq_false_iff_not] at h1; omega
    have hx : x = l.length := by have := h.1; omega
    subst hx
    rw [codeF_end h1 h.2, List.take_length, List.length_map]
    refine ⟨fun h2 => ⟨_, rfl, ?_⟩, fun h2 => ⟨_, rfl, ?_⟩⟩
    · rw [decide_eq_false (by simp only [decide_eq_true_eq] at h2; omega)]; exact ⟨rfl, rfl, trivial⟩
    · rw [decide_eq_true (by simp only [decide_eq_false_iff_not] at h2; omega)]; exact ⟨HEq.rfl, rfl, trivial⟩
abbrev lp14 (l : List IN) : Nat → Option LoopSp := fun _ => some { X := Nat, sl := fun k => [(0, .one (.rd shI l)), (4, .one (.sl 0)), (5, .one (vi k))], h := fun k => [(0, .own 67 (.int .u64) ((l.take k).map encW))], nx := 1, inv := fun k => k ≤ l.length ∧ (l.take k).all goodF = true, mu := fun k => l.length - k }
theorem v14 : Valid Tryz.prog 14 (.pre (rS [pNs] [pUs, pI] (fun l => List.length l ≤ 1000000) (fun l y => y = codeF l))) := by
  refine rS_ok mixed Tbl_ok N1_ok Tryz.func14 call14 rfl ?_
  rintro (l : List IN) hr hp
  refine ⟨lp14 l, ?_⟩
  refine Eq.mp (by kernel_rfl : ((∃ (x : Nat), (x ≤ l.length ∧ (List.take x l).all goodF = true) ∧ l ≍ l ∧ (0 : Int) = (↑x : Int) ∧ List.map encW (List.take x l) = ([] : List Int) ∧ True) ∧ ∀ (x : Nat), x ≤ l.length ∧ (List.take x l).all goodF = true → (decide ((↑x : Int) < (↑l.length : Int)) = true → ((0 : Int) ≤ (↑x : Int) ∧ (↑x : Int) < (↑l.length : Int)) ∧ ∀ (y : Int × Int × Int × Int × Int), l[(↑x : Int).toNat]? = some y → (((encF (y.fst, y.snd.fst, y.snd.snd.fst, y.snd.snd.snd.fst, y.snd.snd.snd.snd)).snd != (0 : Int)) = true → ∃ (y : Tup (pUs :: pI :: ([] : List PS))), y = codeF l ∧ y.fst = ([] : List Int) ∧ (11 : Int) = y.snd ∧ True) ∧ (((encF (y.fst, y.snd.fst, y.snd.snd.fst, y.snd.snd.snd.fst, y.snd.snd.snd.snd)).snd != (0 : Int)) = false → ((List.map encW (List.take x l)).length + ((encF (y.fst, y.snd.fst, y.snd.snd.fst, y.snd.snd.snd.fst, y.snd.snd.snd.snd)).fst :: ([] : List Int)).length) * (8 : Nat) ≤ (140737488355328 : Nat) ∧ ((-9223372036854775808 : Int) ≤ (↑x : Int) + (1 : Int) ∧ (↑x : Int) + (1 : Int) ≤ (9223372036854775807 : Int)) ∧ ∃ (y_1 : Nat), (y_1 ≤ l.length ∧ (List.take y_1 l).all goodF = true) ∧ l.length - y_1 < l.length - x ∧ l ≍ l ∧ (↑x : Int) + (1 : Int) = (↑y_1 : Int) ∧ List.map encW (List.take x l) ++ (encF (y.fst, y.snd.fst, y.snd.snd.fst, y.snd.snd.snd.fst, y.snd.snd.snd.snd)).fst :: ([] : List Int) ≍ List.map encW (List.take y_1 l) ∧ True)) ∧ (decide ((↑x : Int) < (↑l.length : Int)) = false → (decide ((↑(List.map encW (List.take x l)).length : Int) > (4096 : Int)) = true → ∃ (y : Tup (pUs :: pI :: ([] : List PS))), y = codeF l ∧ y.fst = ([] : List Int) ∧ (3 : Int) = y.snd ∧ True) ∧ (decide ((↑(List.map encW (List.take x l)).length : Int) > (4096 : Int)) = false → ∃ (y : Tup (pUs :: pI :: ([] : List PS))), y = codeF l ∧ List.map encW (List.take x l) ≍ y.fst ∧ (0 : Int) = y.snd ∧ True))) = _) ?_
  have hp : l.length ≤ 1000000 := hp
  refine ⟨⟨0, ⟨Nat.zero_le _, rfl⟩, HEq.rfl, rfl, rfl, trivial⟩, fun x h => ⟨fun h1 => ⟨by simp only [decide_eq_true_eq] at h1; omega, fun y hy => ?_⟩, fun h1 => ?_⟩⟩
  · rw [Int.toNat_natCast] at hy
    obtain ⟨k1, k2⟩ := codeF_step (K := fun z => (-9223372036854775808 ≤ (x : Int) + 1 ∧ (x : Int) + 1 ≤ 9223372036854775807) ∧ z = x + 1 ∧ (z ≤ l.length ∧ (l.take z).all goodF = true) ∧ (l.take x).map encW ++ [(encF y).1] = (l.take z).map encW) h hy hp (fun a b => ⟨by omega, rfl, a, b⟩)
    refine ⟨fun h2 => ?_, fun h2 => ?_⟩
    · obtain ⟨e1, e2⟩ := k1 h2
      exact ⟨_, rfl, by rw [e1], by rw [e1], trivial⟩
    · obtain ⟨a, b, _, c, d⟩ := k2 h2
      exact ⟨a, b, x + 1, c, by omega, HEq.rfl, by simp, heq_of_eq d, trivial⟩
  · have h1 : l.length ≤ x := by simp only [decide_eq_false_iff_not] at h1; omega
    have hx : x = l.length := by have := h.1; omega
    subst hx
    rw [codeF_end h1 h.2, List.take_length, List.length_map]
    refine ⟨fun h2 => ⟨_, rfl, ?_⟩, fun h2 => ⟨_, rfl, ?_⟩⟩
    · rw [decide_eq_false (by simp only [decide_eq_true_eq] at h2; omega)]; exact ⟨rfl, rfl, trivial⟩
    · rw [decide_eq_true (by simp only [decide_eq_false_iff_not] at h2; omega)]; exact ⟨HEq.rfl, rfl, trivial⟩
abbrev codS : Spec := .pre (rS [pNs] [pUs, pI] (fun l => List.length l ≤ 1000000) (fun l y => y = codeF l))
abbrev N2 : List (Nat × Spec) := (13, codS) :: (14, codS) :: N1
theorem N2_all : ∀ p ∈ N2, Valid Tryz.prog p.1 p.2 := vcons v13 (vcons v14 N1_all)
theorem N2_ok : ∀ f S, spL N2 f = some S → Valid Tryz.prog f S := spL_ok N2_all
end Go.Proofs.YtnbbooilapelmaaGreatDoor.V

namespace Go.Proofs.YtnbbooilapelmaaGreatDoor.V
open Go.RowKit Go.Proofs.YtnbbooilapelmaaGreatDoor
set_option linter.unusedSimpArgs false
theorem decB_size {n : Int} (h0 : -9223372036854775808 ≤ n) (h1 : n ≤ 9223372036854775807) : (decB n).size ≤ 21 := by
  have := Lib.itoa_length_le n h0 h1
  show (decB n).data.size ≤ 21
  simpa [decB] using this
theorem decB_max {n : Int} (h0 : -9223372036854775808 ≤ n) (h1 : n ≤ 9223372036854775807) : (decB n).size ≤ maxLen := Nat.le_trans (decB_size h0 h1) (by decide)
theorem toList_data (s : ByteArray) : s.toList = s.data.toList := ByteArray.toList_eq s
theorem decB_u {u : Nat} : decB (u : Int) = ⟨(Lib.decDigits u).toArray⟩ := by rw [decB, Lib.itoa_nonneg]
abbrev WX := List ByteArray × Nat × Nat
structure I17 (s : ByteArray) (x : WX) : Prop where
  ft : x.2.1 ≤ x.2.2
  ps : x.2.2 ≤ s.size
  nb : noB s x.2.1 x.2.2
  wd : wd s = x.1 ++ (cutL (s.data.toList.drop x.2.1)).map mkW
  ln : x.1.length ≤ x.2.1
structure O17 (s : ByteArray) (x : WX) : Prop where
  ps : x.2.2 = s.size + 1
  wd : wd s = x.1
  ln : x.1.length ≤ s.size + 1
theorem I17.zero (s : ByteArray) : I17 s ([], 0, 0) := ⟨Nat.le_refl _, Nat.zero_le _, fun j h1 h2 => by dsimp only at h2; omega, rfl, Nat.zero_le _⟩
theorem I17.blank {s : ByteArray} {x : WX} (h : I17 s x) (hb : s.data.toList[x.2.2]? = some 32) : I17 s (x.1 ++ [s.extract x.2.1 x.2.2], x.2.2 + 1, x.2.2 + 1) := by
  have hlt := (List.getElem?_eq_some_iff.1 hb).1
  rw [size_list] at hlt
  refine ⟨Nat.le_refl _, hlt, fun j h1 h2 => by dsimp only at h1 h2; omega, ?_, ?_⟩
  · rw [h.wd, wd_at h.ft h.nb hb, List.append_assoc]; rfl
  · have := h.ln; have := h.ft
    simp only [List.length_append, List.length_singleton]; omega
theorem i17_fin {s : ByteArray} {x : WX} (h : I17 s x) (he : x.2.2 = s.size) : wd s = x.1 ++ [s.extract x.2.1 s.size] := by
  have hn := h.nb
  rw [he] at hn
  rw [h.wd, wd_end hn]
theorem get_l {s : ByteArray} {i : Nat} {y : UInt8} (h : s[i]? = some y) : s.data.toList[i]? = some y := (get_list _ _ _).1 h
theorem ext_add {s : ByteArray} {a b : Nat} (h : a ≤ b) : s.extract (a : Int).toNat ((a : Int).toNat + ((b : Int).toNat - (a : Int).toNat)) = s.extract a b := by
  rw [Int.toNat_natCast, Int.toNat_natCast, Nat.add_sub_cancel' h]
theorem ext_end {s : ByteArray} {a : Nat} (h : a ≤ s.size) : s.extract (a : Int).toNat ((a : Int).toNat + (s.size - (a : Int).toNat)) = s.extract a s.size := by
  rw [Int.toNat_natCast, Nat.add_sub_cancel' h]
def inv24 (s : ByteArray) (x : WX) : Prop := I17 s x ∨ O17 s x
abbrev lp24 (s : ByteArray) : Nat → Option LoopSp := fun _ => some { X := WX, sl := fun x => [(0, .one (.val (.string s))), (3, .one (.sl 0)), (4, .one (vi x.2.1)), (5, .one (vi x.2.2))], h := fun x => [(0, .own 9 .str x.1)], nx := 1, inv := inv24 s, mu := fun x => s.size + 1 - x.2.2 }
theorem v24 : Valid Tryz.prog 24 (.pre (rS [pS] [pSs] (fun x => ByteArray.size x ≤ 1000000) (fun x y => y = wd x))) := by
  refine rS_ok mixed Tbl_ok N2_ok Tryz.func24 call24 rfl ?_
  rintro (s : ByteArray) hr hs
  refine ⟨lp24 s, ?_⟩
  refine Eq.mp (by kernel_rfl : ((∃ (x : WX), (I17 s x ∨ O17 s x) ∧ Value.string s = Value.string s ∧ (0 : Int) = (↑x.snd.fst : Int) ∧ (0 : Int) = (↑x.snd.snd : Int) ∧ x.fst = ([] : List ByteArray) ∧ True) ∧ ∀ (x : WX), I17 s x ∨ O17 s x → (decide ((↑x.snd.snd : Int) ≤ (↑s.size : Int)) = true → (((↑x.snd.snd : Int) == (↑s.size : Int)) = true → ((0 : Int) ≤ (↑x.snd.fst : Int) ∧ (↑x.snd.fst : Int) ≤ (↑x.snd.snd : Int) ∧ (↑x.snd.snd : Int) ≤ (↑s.size : Int)) ∧ (x.fst.length + (s.extract (↑x.snd.fst : Int).toNat ((↑x.snd.fst : Int).toNat + ((↑x.snd.snd : Int).toNat - (↑x.snd.fst : Int).toNat)) :: ([] : List ByteArray)).length) * (16 : Nat) ≤ (140737488355328 : Nat) ∧ ((-9223372036854775808 : Int) ≤ (↑x.snd.snd : Int) + (1 : Int) ∧ (↑x.snd.snd : Int) + (1 : Int) ≤ (9223372036854775807 : Int)) ∧ ((-9223372036854775808 : Int) ≤ (↑x.snd.snd : Int) + (1 : Int) ∧ (↑x.snd.snd : Int) + (1 : Int) ≤ (9223372036854775807 : Int)) ∧ ∃ (y : WX), (I17 s y ∨ O17 s y) ∧ s.size + (1 : Nat) - y.snd.snd < s.size + (1 : Nat) - x.snd.snd ∧ Value.string s = Value.string s ∧ (↑x.snd.snd : Int) + (1 : Int) = (↑y.snd.fst : Int) ∧ (↑x.snd.snd : Int) + (1 : Int) = (↑y.snd.snd : Int) ∧ x.fst ++ s.extract (↑x.snd.fst : Int).toNat ((↑x.snd.fst : Int).toNat + ((↑x.snd.snd : Int).toNat - (↑x.snd.fst : Int).toNat)) :: ([] : List ByteArray) ≍ y.fst ∧ True) ∧ (((↑x.snd.snd : Int) == (↑s.size : Int)) = false → ((0 : Int) ≤ (↑x.snd.snd : Int) ∧ (↑x.snd.snd : Int) < (↑s.size : Int)) ∧ ∀ (y : UInt8), s[(↑x.snd.snd : Int).toNat]? = some y → (((↑y.toNat : Int) == (32 : Int)) = true → ((0 : Int) ≤ (↑x.snd.fst : Int) ∧ (↑x.snd.fst : Int) ≤ (↑x.snd.snd : Int) ∧ (↑x.snd.snd : Int) ≤ (↑s.size : Int)) ∧ (x.fst.length + (s.extract (↑x.snd.fst : Int).toNat ((↑x.snd.fst : Int).toNat + ((↑x.snd.snd : Int).toNat - (↑x.snd.fst : Int).toNat)) :: ([] : List ByteArray)).length) * (16 : Nat) ≤ (140737488355328 : Nat) ∧ ((-9223372036854775808 : Int) ≤ (↑x.snd.snd : Int) + (1 : Int) ∧ (↑x.snd.snd : Int) + (1 : Int) ≤ (9223372036854775807 : Int)) ∧ ((-9223372036854775808 : Int) ≤ (↑x.snd.snd : Int) + (1 : Int) ∧ (↑x.snd.snd : Int) + (1 : Int) ≤ (9223372036854775807 : Int)) ∧ ∃ (y : WX), (I17 s y ∨ O17 s y) ∧ s.size + (1 : Nat) - y.snd.snd < s.size + (1 : Nat) - x.snd.snd ∧ Value.string s = Value.string s ∧ (↑x.snd.snd : Int) + (1 : Int) = (↑y.snd.fst : Int) ∧ (↑x.snd.snd : Int) + (1 : Int) = (↑y.snd.snd : Int) ∧ x.fst ++ s.extract (↑x.snd.fst : Int).toNat ((↑x.snd.fst : Int).toNat + ((↑x.snd.snd : Int).toNat - (↑x.snd.fst : Int).toNat)) :: ([] : List ByteArray) ≍ y.fst ∧ True) ∧ (((↑y.toNat : Int) == (32 : Int)) = false → ((-9223372036854775808 : Int) ≤ (↑x.snd.snd : Int) + (1 : Int) ∧ (↑x.snd.snd : Int) + (1 : Int) ≤ (9223372036854775807 : Int)) ∧ ∃ (y : WX), (I17 s y ∨ O17 s y) ∧ s.size + (1 : Nat) - y.snd.snd < s.size + (1 : Nat) - x.snd.snd ∧ Value.string s = Value.string s ∧ (↑x.snd.fst : Int) = (↑y.snd.fst : Int) ∧ (↑x.snd.snd : Int) + (1 : Int) = (↑y.snd.snd : Int) ∧ x.fst ≍ y.fst ∧ True))) ∧ (decide ((↑x.snd.snd : Int) ≤ (↑s.size : Int)) = false → ∃ (y : Tup (pSs :: ([] : List PS))), y = wd s ∧ x.fst ≍ y ∧ True)) = _) ?_
  have hs : s.size ≤ 1000000 := hs
  refine ⟨⟨([], 0, 0), .inl (I17.zero s), rfl, rfl, rfl, rfl, trivial⟩, ?_⟩
  rintro ⟨W, f, i⟩ hx
  have h16 : W.length ≤ s.size + 1 := by
    rcases hx with h | h
    · have := h.ln; have := h.ft; have := h.ps; dsimp only at *; omega
    · exact h.ln
  dsimp only
  refine ⟨fun h1 => ?_, fun h1 => ?_⟩
  · have h1 : i ≤ s.size := by simpa using h1
    have hx : I17 s (W, f, i) := by
      rcases hx with h | h
      · exact h
      · have := h.ps; dsimp only at this; omega
    have hft : f ≤ i := hx.ft
    rw [ext_add hft]
    refine ⟨fun h2 => ⟨by omega, by simp only [List.length_singleton]; omega, by omega, by omega, (W ++ [s.extract f i], i + 1, i + 1), .inr ?_, by dsimp only; omega, rfl, by simp, by simp, HEq.rfl, trivial⟩, fun h2 => ⟨?_, fun y hy => ⟨fun h3 => ⟨by omega, by simp only [List.length_singleton]; omega, by omega, by omega, (W ++ [s.extract f i], i + 1, i + 1), .inl ?_, by dsimp only; omega, rfl, by simp, by simp, HEq.rfl, trivial⟩, fun h3 => ⟨by omega, (W, f, i + 1), .inl ?_, by dsimp only; omega, rfl, rfl, by simp, HEq.rfl, trivial⟩⟩⟩⟩
    · have h2 : i = s.size := by simp only [beq_iff_eq] at h2; omega
      subst h2
      refine ⟨rfl, i17_fin hx rfl, ?_⟩
      simp only [List.length_append, List.length_singleton]
      have := hx.ln; dsimp only at this; omega
    · have h2 : ¬ i = s.size := by simp only [beq_eq_false_iff_ne, ne_eq] at h2; omega
      omega
    · rw [Int.toNat_natCast] at hy
      have h3 : y = 32 := by
        simp only [beq_iff_eq] at h3
        exact UInt8.toNat_inj.1 (by rw [show (32 : UInt8).toNat = 32 from rfl]; omega)
      subst h3
      exact hx.blank (get_l hy)
    · rw [Int.toNat_natCast] at hy
      have h2 : ¬ i = s.size := by simp only [beq_eq_false_iff_ne, ne_eq] at h2; omega
      refine ⟨by dsimp only; omega, by dsimp only; omega, fun j h4 h5 => ?_, hx.wd, hx.ln⟩
      dsimp only at h4 h5
      rcases Nat.lt_or_ge j i with h6 | h6
      · exact hx.nb j h4 h6
      · have : j = i := by omega
        subst this
        rw [get_l hy]
        intro e
        rw [Option.some.inj e] at h3
        exact absurd h3 (by decide)
  · have h1 : ¬ i ≤ s.size := by simpa using h1
    rcases hx with h | h
    · exact absurd h.ps h1
    · exact ⟨W, h.wd.symm, HEq.rfl, trivial⟩
abbrev wdS : Spec := .pre (rS [pS] [pSs] (fun x => ByteArray.size x ≤ 1000000) (fun x y => y = wd x))
abbrev N3 : List (Nat × Spec) := (24, wdS) :: N2
theorem N3_all : ∀ p ∈ N3, Valid Tryz.prog p.1 p.2 := vcons v24 N2_all
theorem N3_ok : ∀ f S, spL N3 f = some S → Valid Tryz.prog f S := spL_ok N3_all
theorem dig_ext {d : Nat} (h : d < 10) : (ByteArray.mk #[48, 49, 50, 51, 52, 53, 54, 55, 56, 57]).extract d (d + 1) = mkW [UInt8.ofNat (48 + d)] := by
  have : d = 0 ∨ d = 1 ∨ d = 2 ∨ d = 3 ∨ d = 4 ∨ d = 5 ∨ d = 6 ∨ d = 7 ∨ d = 8 ∨ d = 9 := by omega
  rcases this with rfl | rfl | rfl | rfl | rfl | rfl | rfl | rfl | rfl | rfl <;> rfl
structure I56 (n : Nat) (x : Nat × Nat × ByteArray) : Prop where
  i : x.1 ≤ 20
  v : x.2.1 < 10 ^ (20 - x.1)
  p : x.1 = 0 ∨ 0 < x.2.1
  d : Lib.decDigits n = Lib.decDigits x.2.1 ++ x.2.2.data.toList
  s : x.2.2.size = x.1
theorem mkW_app (l : List UInt8) (s : ByteArray) : (mkW l ++ s).data.toList = l ++ s.data.toList := by simp [mkW]
theorem mkW_size (l : List UInt8) : (mkW l).size = l.length := by show Array.size _ = _; simp [mkW]
abbrev lp56 (n : Nat) : Nat → Option LoopSp := fun _ => some { X := Nat × Nat × ByteArray, sl := fun x => [(0, .one (.val (.int .u64 x.2.1))), (3, .one (.val (.string x.2.2))), (4, .one (vi x.1))], h := fun _ => [], nx := 0, inv := fun x => I56 n x, mu := fun x => 20 - x.1 }
theorem v56 : Valid Tryz.prog 56 (.tot (tS [pU] [pS] fun n => decB n)) := by
  refine tS_ok mixed Tbl_ok N3_ok Tryz.func56 call56 rfl rfl rfl ?_
  rintro (n : Int) hr z hz
  refine ⟨lp56 n.toNat, ?_⟩
  refine Eq.mp (by kernel_rfl : ((∃ (x : Nat × Nat × ByteArray), I56 n.toNat x ∧ n = (↑x.snd.fst : Int) ∧ Value.string (ByteArray.mk ([] : List UInt8).toArray) = Value.string x.snd.snd ∧ (0 : Int) = (↑x.fst : Int) ∧ True) ∧ ∀ (x : Nat × Nat × ByteArray), I56 n.toNat x → (decide ((↑x.fst : Int) < (20 : Int)) = true → (10 : Int) ≠ (0 : Int) ∧ (10 : Int) ≠ (0 : Int) ∧ ((0 : Int) ≤ (↑x.snd.fst : Int).tmod (10 : Int) ∧ (↑x.snd.fst : Int).tmod (10 : Int) ≤ IntKind.u64.wrap ((↑x.snd.fst : Int).tmod (10 : Int) + (1 : Int)) ∧ IntKind.u64.wrap ((↑x.snd.fst : Int).tmod (10 : Int) + (1 : Int)) ≤ (↑(ByteArray.mk ((48 : UInt8) :: (49 : UInt8) :: (50 : UInt8) :: (51 : UInt8) :: (52 : UInt8) :: (53 : UInt8) :: (54 : UInt8) :: (55 : UInt8) :: (56 : UInt8) :: (57 : UInt8) :: ([] : List UInt8)).toArray).size : Int)) ∧ ((ByteArray.mk ((48 : UInt8) :: (49 : UInt8) :: (50 : UInt8) :: (51 : UInt8) :: (52 : UInt8) :: (53 : UInt8) :: (54 : UInt8) :: (55 : UInt8) :: (56 : UInt8) :: (57 : UInt8) :: ([] : List UInt8)).toArray).extract ((↑x.snd.fst : Int).tmod (10 : Int)).toNat (((↑x.snd.fst : Int).tmod (10 : Int)).toNat + ((IntKind.u64.wrap ((↑x.snd.fst : Int).tmod (10 : Int) + (1 : Int))).toNat - ((↑x.snd.fst : Int).tmod (10 : Int)).toNat))).size + x.snd.snd.size ≤ maxLen ∧ (10 : Int) ≠ (0 : Int) ∧ ((IntKind.u64.wrap ((↑x.snd.fst : Int).tdiv (10 : Int)) == (0 : Int)) = true → Value.string ((ByteArray.mk ((48 : UInt8) :: (49 : UInt8) :: (50 : UInt8) :: (51 : UInt8) :: (52 : UInt8) :: (53 : UInt8) :: (54 : UInt8) :: (55 : UInt8) :: (56 : UInt8) :: (57 : UInt8) :: ([] : List UInt8)).toArray).extract ((↑x.snd.fst : Int).tmod (10 : Int)).toNat (((↑x.snd.fst : Int).tmod (10 : Int)).toNat + ((IntKind.u64.wrap ((↑x.snd.fst : Int).tmod (10 : Int) + (1 : Int))).toNat - ((↑x.snd.fst : Int).tmod (10 : Int)).toNat)) ++ x.snd.snd) = Value.string z ∧ True) ∧ ((IntKind.u64.wrap ((↑x.snd.fst : Int).tdiv (10 : Int)) == (0 : Int)) = false → ((-9223372036854775808 : Int) ≤ (↑x.fst : Int) + (1 : Int) ∧ (↑x.fst : Int) + (1 : Int) ≤ (9223372036854775807 : Int)) ∧ ∃ (y : Nat × Nat × ByteArray), I56 n.toNat y ∧ (20 : Nat) - y.fst < (20 : Nat) - x.fst ∧ IntKind.u64.wrap ((↑x.snd.fst : Int).tdiv (10 : Int)) = (↑y.snd.fst : Int) ∧ Value.string ((ByteArray.mk ((48 : UInt8) :: (49 : UInt8) :: (50 : UInt8) :: (51 : UInt8) :: (52 : UInt8) :: (53 : UInt8) :: (54 : UInt8) :: (55 : UInt8) :: (56 : UInt8) :: (57 : UInt8) :: ([] : List UInt8)).toArray).extract ((↑x.snd.fst : Int).tmod (10 : Int)).toNat (((↑x.snd.fst : Int).tmod (10 : Int)).toNat + ((IntKind.u64.wrap ((↑x.snd.fst : Int).tmod (10 : Int) + (1 : Int))).toNat - ((↑x.snd.fst : Int).tmod (10 : Int)).toNat)) ++ x.snd.snd) = Value.string y.snd.snd ∧ (↑x.fst : Int) + (1 : Int) = (↑y.fst : Int) ∧ True)) ∧ (decide ((↑x.fst : Int) < (20 : Int)) = false → Value.string x.snd.snd = Value.string z ∧ True)) = _) ?_
  have hz : decB n = z := hz
  subst hz
  have hr : 0 ≤ n ∧ n ≤ 18446744073709551615 := hr
  obtain ⟨n, rfl⟩ : ∃ m : Nat, n = m := ⟨n.toNat, by omega⟩
  rw [Int.toNat_natCast]
  refine ⟨⟨(0, n, ⟨#[]⟩), ⟨Nat.zero_le _, ?_, .inl rfl, by simp, rfl⟩, rfl, rfl, rfl, trivial⟩, ?_⟩
  · show n < 10 ^ 20
    omega
  rintro ⟨i, v, s⟩ hx
  have hi : i ≤ 20 := hx.i
  have hv : v < 10 ^ (20 - i) := hx.v
  have hs : s.size = i := hx.s
  have h20 : 10 ^ (20 - i) ≤ 10 ^ 20 := Nat.pow_le_pow_right (by decide) (by omega)
  have h20' : v < 100000000000000000000 := Nat.lt_of_lt_of_le hv h20
  have hd : v % 10 < 10 := Nat.mod_lt _ (by decide)
  have e1 : ((v : Int)).tmod 10 = ((v % 10 : Nat) : Int) := by rw [Int.tmod_eq_emod_of_nonneg (by omega)]; omega
  have e2 : ((v : Int)).tdiv 10 = ((v / 10 : Nat) : Int) := by rw [Int.tdiv_eq_ediv_of_nonneg (by omega)]; omega
  have e3 : IntKind.u64.wrap (((v % 10 : Nat) : Int) + 1) = ((v % 10 : Nat) : Int) + 1 := by rw [IntKind.wrap_u64]; omega
  have e4 : IntKind.u64.wrap ((v / 10 : Nat) : Int) = ((v / 10 : Nat) : Int) := by rw [IntKind.wrap_u64]; omega
  have e5 : (ByteArray.mk (48 :: 49 :: 50 :: 51 :: 52 :: 53 :: 54 :: 55 :: 56 :: 57 :: ([] : List UInt8)).toArray).extract (((v % 10 : Nat) : Int)).toNat ((((v % 10 : Nat) : Int)).toNat + ((((v % 10 : Nat) : Int) + 1).toNat - (((v % 10 : Nat) : Int)).toNat)) = mkW [UInt8.ofNat (48 + v % 10)] := by
    rw [show (((v % 10 : Nat) : Int)).toNat + ((((v % 10 : Nat) : Int) + 1).toNat - (((v % 10 : Nat) : Int)).toNat) = v % 10 + 1 by omega, Int.toNat_natCast]
    exact dig_ext hd
  have hmx : 21 ≤ maxLen := by decide
  dsimp only
  rw [e1, e2, e3, e4, e5]
  refine ⟨fun h => ⟨by decide, by decide, ⟨by omega, by omega, ?_⟩, ?_, by decide, fun h2 => ⟨?_, trivial⟩, fun h2 => ⟨by omega, (i + 1, v / 10, mkW [UInt8.ofNat (48 + v % 10)] ++ s), ?_, ?_, rfl, rfl, by simp, trivial⟩⟩, fun h => ?_⟩
  · show _ ≤ ((10 : Nat) : Int)
    omega
  · rw [mkW_size, hs]; simp only [List.length_singleton]; omega
  · have h2 : v < 10 := by simp only [beq_iff_eq] at h2; omega
    congr 1
    apply ba_ext
    rw [mkW_app, decB_list, Lib.itoa_nonneg, hx.d, Lib.decDigits_one h2, Nat.mod_eq_of_lt h2]
  · have h2 : ¬ v < 10 := by simp only [beq_eq_false_iff_ne, ne_eq] at h2; omega
    have h : i < 20 := by simp only [decide_eq_true_eq] at h; omega
    refine ⟨h, ?_, .inr (by dsimp only; omega), ?_, ?_⟩
    · dsimp only
      rw [show 20 - i = (20 - (i + 1)) + 1 by omega, Nat.pow_succ] at hv
      omega
    · dsimp only
      rw [mkW_app, hx.d, Lib.decDigits, dif_neg h2, List.append_assoc]
    · dsimp only
      rw [ByteArray.size_append, mkW_size, hs]; simp only [List.length_singleton]; omega
  · have h : i < 20 := by simp only [decide_eq_true_eq] at h; omega
    omega
  · have h : i = 20 := by simp only [decide_eq_false_iff_not] at h; omega
    subst h
    have := hx.p
    simp only [Nat.sub_self, Nat.pow_zero] at hv
    dsimp only at this
    omega
abbrev N4 : List (Nat × Spec) := (56, .tot (tS [pU] [pS] fun n => decB n)) :: N3
theorem N4_all : ∀ p ∈ N4, Valid Tryz.prog p.1 p.2 := vcons v56 N3_all
theorem N4_ok : ∀ f S, spL N4 f = some S → Valid Tryz.prog f S := spL_ok N4_all
theorem v34 : Valid Tryz.prog 34 (.tot (tS [(false, .int .i64)] [pS] fun n => decB n)) := by
  refine tS_ok mixed Tbl_ok N4_ok Tryz.func34 call34 rfl rfl rfl ?_
  rintro (n : Int) hr z hz
  refine ⟨noLoop, ?_⟩
  refine Eq.mp (by kernel_rfl : ((decide (n < (0 : Int)) = true → ((-9223372036854775808 : Int) ≤ n + (1 : Int) ∧ n + (1 : Int) ≤ (9223372036854775807 : Int)) ∧ (ByteArray.mk ((45 : UInt8) :: ([] : List UInt8)).toArray).size + (decB (IntKind.u64.wrap (IntKind.u64.wrap (IntKind.i64.wrap ((0 : Int) - (n + (1 : Int)))) + (1 : Int)))).size ≤ maxLen ∧ Value.string (ByteArray.mk ((45 : UInt8) :: ([] : List UInt8)).toArray ++ decB (IntKind.u64.wrap (IntKind.u64.wrap (IntKind.i64.wrap ((0 : Int) - (n + (1 : Int)))) + (1 : Int)))) = Value.string z ∧ True) ∧ (decide (n < (0 : Int)) = false → Value.string (decB (IntKind.u64.wrap n)) = Value.string z ∧ True)) = _) ?_
  have hz : decB n = z := hz
  subst hz
  have hr : -9223372036854775808 ≤ n ∧ n ≤ 9223372036854775807 := hr
  refine ⟨fun h => ?_, fun h => ⟨?_, trivial⟩⟩
  · have h : n < 0 := by simpa using h
    obtain ⟨u, rfl⟩ : ∃ u : Nat, n = -(u : Int) := ⟨n.natAbs, by omega⟩
    have e : IntKind.u64.wrap (IntKind.u64.wrap (IntKind.i64.wrap (0 - (-(u : Int) + 1))) + 1) = (u : Int) := by
      rw [IntKind.wrap_u64, IntKind.wrap_u64, IntKind.wrap_i64]
      omega
    rw [e]
    have hs := decB_size (n := (u : Int) - 1) (by omega) (by omega)
    refine ⟨by omega, ?_, ?_, trivial⟩
    · have : (decB (u : Int)).size ≤ 20 := by
        rw [decB_u]
        show Array.size _ ≤ _
        have := Lib.nDigits_le20 u (by omega)
        rw [← Lib.decDigits_length] at this
        simpa using this
      have hmx : 21 ≤ maxLen := by decide
      show 1 + _ ≤ _
      omega
    · congr 1
      apply ba_ext
      rw [decB_list, Lib.itoa_neg u (by omega), decB_u]
      simp
  · have h : ¬ n < 0 := by simpa using h
    rw [show IntKind.u64.wrap n = n by rw [IntKind.wrap_u64]; omega]
abbrev N5 : List (Nat × Spec) := (34, .tot (tS [pI] [pS] fun n => decB n)) :: N4
theorem N5_all : ∀ p ∈ N5, Valid Tryz.prog p.1 p.2 := vcons v34 N4_all
theorem N5_ok : ∀ f S, spL N5 f = some S → Valid Tryz.prog f S := spL_ok N5_all
def frm (b : Bool) : Nat := if b = true then 1 else 0
theorem mag_drop (l : List UInt8) : magL l = l.drop (frm (negB l)) := by
  unfold magL frm
  cases l with
  | nil => rfl
  | cons c r => cases h : negB (c :: r) <;> simp
theorem frm_le (l : List UInt8) : frm (negB l) ≤ l.length := by
  cases l with
  | nil => exact Nat.zero_le _
  | cons c r => unfold frm; split <;> simp
theorem read_none {s : ByteArray} (h : readE s.data.toList = none) : readB s = (0, false) := by rw [readB, h]
theorem read_bad {s : ByteArray} (h1 : ¬ (magL s.data.toList = [] ∨ 20 < s.data.toList.length)) (h : readL 0 (magL s.data.toList) = none) : readB s = (0, false) := read_none (by rw [readE, if_neg h1, h])
theorem readL_no {u : Nat} {c : UInt8} {r : List UInt8} (h : ¬ (48 ≤ c.toNat ∧ c.toNat ≤ 57 ∧ u ≤ 922337203685477580)) : readL u (c :: r) = none := by rw [readL, if_neg h]
theorem dec1 {d : Nat} (h : d < 10) : decB (d : Int) = mkW [UInt8.ofNat (48 + d)] := by rw [decB_u, Lib.decDigits_one h]; rfl
/-- The reference's way to read a number. -/
def numR (s : ByteArray) : Int × Bool := match decide (1 ≤ s.size ∧ s.size ≤ 11) with | true => readB s | false => (0, false)
structure I41 (s : ByteArray) (x : Nat × Nat) : Prop where
  i : x.1 ≤ s.size
  u : x.2 < 10 ^ x.1
  e : readL 0 (magL s.data.toList) = readL x.2 (s.data.toList.drop (max x.1 (frm (negB s.data.toList))))
abbrev lp41 (s : ByteArray) : Nat → Option LoopSp := fun _ => some { X := Nat × Nat, sl := fun x => [(0, .one (.val (.string s))), (4, .one (vi x.2)), (5, .one (vi x.1))], h := fun _ => [], nx := 0, inv := fun x => I41 s x, mu := fun x => s.size - x.1 }
theorem v41 : Valid Tryz.prog 41 (.tot (tS [pS] [pI, pB] numR)) := by
  refine tS_ok mixed Tbl_ok N5_ok Tryz.func41 call41 rfl rfl rfl ?_
  rintro (s : ByteArray) hr z hz
  refine ⟨lp41 s, ?_⟩
  refine Eq.mp (by kernel_rfl : (((decide ((↑s.size : Int) < (1 : Int)) || decide ((↑s.size : Int) > (11 : Int))) = true → (0 : Int) = z.fst ∧ false = z.snd ∧ True) ∧ ((decide ((↑s.size : Int) < (1 : Int)) || decide ((↑s.size : Int) > (11 : Int))) = false → (∃ (x : Nat × Nat), I41 s x ∧ Value.string s = Value.string s ∧ (0 : Int) = (↑x.snd : Int) ∧ (0 : Int) = (↑x.fst : Int) ∧ True) ∧ ∀ (x : Nat × Nat), I41 s x → (decide ((↑x.fst : Int) < (↑s.size : Int)) = true → (((↑x.fst : Int) == (0 : Int)) = true → ((0 : Int) ≤ (↑x.fst : Int) ∧ (↑x.fst : Int) < (↑s.size : Int)) ∧ ∀ (y : UInt8), s[(↑x.fst : Int).toNat]? = some y → (((↑y.toNat : Int) == (45 : Int)) = true → ((-9223372036854775808 : Int) ≤ (↑x.fst : Int) + (1 : Int) ∧ (↑x.fst : Int) + (1 : Int) ≤ (9223372036854775807 : Int)) ∧ ∃ (y : Nat × Nat), I41 s y ∧ s.size - y.fst < s.size - x.fst ∧ Value.string s = Value.string s ∧ (↑x.snd : Int) = (↑y.snd : Int) ∧ (↑x.fst : Int) + (1 : Int) = (↑y.fst : Int) ∧ True) ∧ (((↑y.toNat : Int) == (45 : Int)) = false → ((0 : Int) ≤ (↑x.fst : Int) ∧ (↑x.fst : Int) < (↑s.size : Int)) ∧ ∀ (y : UInt8), s[(↑x.fst : Int).toNat]? = some y → (decide ((↑y.toNat : Int) < (48 : Int)) = true → (0 : Int) = z.fst ∧ false = z.snd ∧ True) ∧ (decide ((↑y.toNat : Int) < (48 : Int)) = false → ((0 : Int) ≤ (↑x.fst : Int) ∧ (↑x.fst : Int) < (↑s.size : Int)) ∧ ∀ (y : UInt8), s[(↑x.fst : Int).toNat]? = some y → (decide ((↑y.toNat : Int) > (57 : Int)) = true → (0 : Int) = z.fst ∧ false = z.snd ∧ True) ∧ (decide ((↑y.toNat : Int) > (57 : Int)) = false → ((-9223372036854775808 : Int) ≤ (↑x.snd : Int) * (10 : Int) ∧ (↑x.snd : Int) * (10 : Int) ≤ (9223372036854775807 : Int)) ∧ ((0 : Int) ≤ (↑x.fst : Int) ∧ (↑x.fst : Int) < (↑s.size : Int)) ∧ ∀ (y : UInt8), s[(↑x.fst : Int).toNat]? = some y → ((-9223372036854775808 : Int) ≤ (↑x.snd : Int) * (10 : Int) + IntKind.u8.wrap ((↑y.toNat : Int) - (48 : Int)) ∧ (↑x.snd : Int) * (10 : Int) + IntKind.u8.wrap ((↑y.toNat : Int) - (48 : Int)) ≤ (9223372036854775807 : Int)) ∧ ((-9223372036854775808 : Int) ≤ (↑x.fst : Int) + (1 : Int) ∧ (↑x.fst : Int) + (1 : Int) ≤ (9223372036854775807 : Int)) ∧ ∃ (y_1 : Nat × Nat), I41 s y_1 ∧ s.size - y_1.fst < s.size - x.fst ∧ Value.string s = Value.string s ∧ (↑x.snd : Int) * (10 : Int) + IntKind.u8.wrap ((↑y.toNat : Int) - (48 : Int)) = (↑y_1.snd : Int) ∧ (↑x.fst : Int) + (1 : Int) = (↑y_1.fst : Int) ∧ True)))) ∧ (((↑x.fst : Int) == (0 : Int)) = false → ((0 : Int) ≤ (↑x.fst : Int) ∧ (↑x.fst : Int) < (↑s.size : Int)) ∧ ∀ (y : UInt8), s[(↑x.fst : Int).toNat]? = some y → (decide ((↑y.toNat : Int) < (48 : Int)) = true → (0 : Int) = z.fst ∧ false = z.snd ∧ True) ∧ (decide ((↑y.toNat : Int) < (48 : Int)) = false → ((0 : Int) ≤ (↑x.fst : Int) ∧ (↑x.fst : Int) < (↑s.size : Int)) ∧ ∀ (y : UInt8), s[(↑x.fst : Int).toNat]? = some y → (decide ((↑y.toNat : Int) > (57 : Int)) = true → (0 : Int) = z.fst ∧ false = z.snd ∧ True) ∧ (decide ((↑y.toNat : Int) > (57 : Int)) = false → ((-9223372036854775808 : Int) ≤ (↑x.snd : Int) * (10 : Int) ∧ (↑x.snd : Int) * (10 : Int) ≤ (9223372036854775807 : Int)) ∧ ((0 : Int) ≤ (↑x.fst : Int) ∧ (↑x.fst : Int) < (↑s.size : Int)) ∧ ∀ (y : UInt8), s[(↑x.fst : Int).toNat]? = some y → ((-9223372036854775808 : Int) ≤ (↑x.snd : Int) * (10 : Int) + IntKind.u8.wrap ((↑y.toNat : Int) - (48 : Int)) ∧ (↑x.snd : Int) * (10 : Int) + IntKind.u8.wrap ((↑y.toNat : Int) - (48 : Int)) ≤ (9223372036854775807 : Int)) ∧ ((-9223372036854775808 : Int) ≤ (↑x.fst : Int) + (1 : Int) ∧ (↑x.fst : Int) + (1 : Int) ≤ (9223372036854775807 : Int)) ∧ ∃ (y_1 : Nat × Nat), I41 s y_1 ∧ s.size - y_1.fst < s.size - x.fst ∧ Value.string s = Value.string s ∧ (↑x.snd : Int) * (10 : Int) + IntKind.u8.wrap ((↑y.toNat : Int) - (48 : Int)) = (↑y_1.snd : Int) ∧ (↑x.fst : Int) + (1 : Int) = (↑y_1.fst : Int) ∧ True)))) ∧ (decide ((↑x.fst : Int) < (↑s.size : Int)) = false → ((0 : Int) ≤ (0 : Int) ∧ (0 : Int) < (↑s.size : Int)) ∧ ∀ (y : UInt8), s[Int.toNat (0 : Int)]? = some y → (((↑y.toNat : Int) == (45 : Int)) = true → IntKind.i64.wrap ((0 : Int) - (↑x.snd : Int)) = z.fst ∧ ((decB (IntKind.i64.wrap ((0 : Int) - (↑x.snd : Int)))).toList == s.toList) = z.snd ∧ True) ∧ (((↑y.toNat : Int) == (45 : Int)) = false → (↑x.snd : Int) = z.fst ∧ ((decB (↑x.snd : Int)).toList == s.toList) = z.snd ∧ True)))) = _) ?_
  have hz : numR s = z := hz
  subst hz
  have hsz : s.data.toList.length = s.size := size_list s
  have hf := frm_le s.data.toList
  have h0 : ∀ y : UInt8, s[Int.toNat 0]? = some y → negB s.data.toList = (y.toNat == 45) := fun y hy => by
    have := get_l hy
    cases hl : s.data.toList with
    | nil => rw [hl] at this; cases this
    | cons c r => rw [hl] at this; cases this; rfl
  refine ⟨fun h => ?_, fun h => ?_⟩
  · have : numR s = (0, false) := by
      rw [numR, decide_eq_false]
      simp only [Bool.or_eq_true, decide_eq_true_eq] at h
      omega
    rw [this]; exact ⟨rfl, rfl, trivial⟩
  simp only [Bool.or_eq_false_iff, decide_eq_false_iff_not] at h
  have hs : 1 ≤ s.size ∧ s.size ≤ 11 := by omega
  have hR : numR s = readB s := by rw [numR, decide_eq_true hs]
  rw [hR]
  refine ⟨⟨(0, 0), ⟨Nat.zero_le _, by decide, by rw [mag_drop, Nat.zero_max]⟩, rfl, rfl, rfl, trivial⟩, ?_⟩
  rintro ⟨i, u⟩ hx
  have hi : i ≤ s.size := hx.i
  have hu : u < 10 ^ i := hx.u
  have he := hx.e
  have hp : 10 ^ i ≤ 10 ^ 11 := Nat.pow_le_pow_right (by decide) (by omega)
  have hu2 : u < 100000000000 := by omega
  dsimp only at he ⊢
  refine ⟨fun h1 => ?_, fun h1 => ?_⟩
  · have h1 : i < s.size := by simp only [decide_eq_true_eq] at h1; omega
    refine ⟨fun h2 => ⟨by omega, fun y hy => ⟨fun h3 => ⟨by omega, (i + 1, u), ?_, by dsimp only; omega, rfl, rfl, by simp, trivial⟩, fun h3 => ?dig⟩⟩, fun h2 => ?dig2⟩
    · have h2 : i = 0 := by simp only [beq_iff_eq] at h2; omega
      subst h2
      have hn : negB s.data.toList = true := by rw [h0 y hy]; simp only [beq_iff_eq] at h3 ⊢; omega
      refine ⟨h1, ?_, ?_⟩
      · dsimp only; rw [Nat.pow_succ]; omega
      · rw [he, hn]; rfl
    case dig =>
      have h2 : i = 0 := by simp only [beq_iff_eq] at h2; omega
      subst h2
      have hn : negB s.data.toList = false := by rw [h0 y hy]; simp only [beq_eq_false_iff_ne, ne_eq] at h3 ⊢; omega
      rw [hn, show max 0 (frm false) = 0 from rfl] at he
      refine ⟨by omega, fun y hy => ?_⟩
      have hy' := get_at (k := 0) hy
      have hlt := (List.getElem?_eq_some_iff.1 hy').1
      rw [List.drop_eq_getElem_cons hlt] at he
      rw [List.getElem?_eq_getElem hlt] at hy'
      rw [Option.some.inj hy'] at he
      have bad : ¬ (48 ≤ y.toNat ∧ y.toNat ≤ 57) → readB s = (0, false) := fun hb => by
        by_cases hm : magL s.data.toList = [] ∨ 20 < s.data.toList.length
        · exact read_none (by rw [readE, if_pos hm])
        · exact read_bad hm (by rw [he, readL_no (fun q => hb ⟨q.1, q.2.1⟩)])
      refine ⟨fun h4 => ?_, fun h4 => ⟨by omega, fun y2 hy2 => ?_⟩⟩
      · rw [bad (by simp only [decide_eq_true_eq] at h4; omega)]; exact ⟨rfl, rfl, trivial⟩
      rw [hy] at hy2; cases hy2
      refine ⟨fun h5 => ?_, fun h5 => ⟨by omega, by omega, fun y3 hy3 => ?_⟩⟩
      · rw [bad (by simp only [decide_eq_true_eq] at h5; omega)]; exact ⟨rfl, rfl, trivial⟩
      rw [hy] at hy3; cases hy3
      have hd : 48 ≤ y.toNat ∧ y.toNat ≤ 57 := by simp only [decide_eq_false_iff_not] at h4 h5; omega
      have hw : IntKind.u8.wrap ((y.toNat : Int) - 48) = (y.toNat : Int) - 48 := by rw [IntKind.wrap_u8]; omega
      rw [hw]
      refine ⟨by omega, by omega, (0 + 1, u * 10 + (y.toNat - 48)), ⟨h1, ?_, ?_⟩, by dsimp only; omega, rfl, by dsimp only; omega, by simp, trivial⟩
      · dsimp only; rw [Nat.pow_succ]; omega
      · dsimp only
        rw [he, readL, if_pos (by omega), hn]; rfl
    case dig2 =>
      have h2 : i ≠ 0 := by simp only [beq_eq_false_iff_ne, ne_eq] at h2; omega
      have hm1 : frm (negB s.data.toList) ≤ 1 := by unfold frm; split <;> omega
      rw [Nat.max_eq_left (by omega)] at he
      refine ⟨by omega, fun y hy => ?_⟩
      have hy' := get_at hy
      have hlt := (List.getElem?_eq_some_iff.1 hy').1
      rw [List.drop_eq_getElem_cons hlt] at he
      rw [List.getElem?_eq_getElem hlt] at hy'
      rw [Option.some.inj hy'] at he
      have bad : ¬ (48 ≤ y.toNat ∧ y.toNat ≤ 57) → readB s = (0, false) := fun hb => by
        by_cases hm : magL s.data.toList = [] ∨ 20 < s.data.toList.length
        · exact read_none (by rw [readE, if_pos hm])
        · exact read_bad hm (by rw [he, readL_no (fun q => hb ⟨q.1, q.2.1⟩)])
      refine ⟨fun h4 => ?_, fun h4 => ⟨by omega, fun y2 hy2 => ?_⟩⟩
      · rw [bad (by simp only [decide_eq_true_eq] at h4; omega)]; exact ⟨rfl, rfl, trivial⟩
      rw [hy] at hy2; cases hy2
      refine ⟨fun h5 => ?_, fun h5 => ⟨by omega, by omega, fun y3 hy3 => ?_⟩⟩
      · rw [bad (by simp only [decide_eq_true_eq] at h5; omega)]; exact ⟨rfl, rfl, trivial⟩
      rw [hy] at hy3; cases hy3
      have hd : 48 ≤ y.toNat ∧ y.toNat ≤ 57 := by simp only [decide_eq_false_iff_not] at h4 h5; omega
      have hw : IntKind.u8.wrap ((y.toNat : Int) - 48) = (y.toNat : Int) - 48 := by rw [IntKind.wrap_u8]; omega
      rw [hw]
      refine ⟨by omega, by omega, (i + 1, u * 10 + (y.toNat - 48)), ⟨h1, ?_, ?_⟩, by dsimp only; omega, rfl, by dsimp only; omega, by simp, trivial⟩
      · dsimp only; rw [Nat.pow_succ]; omega
      · dsimp only
        rw [he, readL, if_pos (by omega), Nat.max_eq_left (by omega)]
  · have h1 : i = s.size := by simp only [decide_eq_false_iff_not] at h1; omega
    subst h1
    have hm1 : frm (negB s.data.toList) ≤ 1 := by unfold frm; split <;> omega
    rw [Nat.max_eq_left (by omega), List.drop_eq_nil_iff.2 (by omega)] at he
    have he : readL 0 (magL s.data.toList) = some u := he
    refine ⟨by omega, fun y hy => ?_⟩
    have hn := h0 y hy
    have hl0 : s.data.toList[0]? = some y := get_at (k := 0) hy
    by_cases hm : magL s.data.toList = []
    · rw [hm] at he
      have hu0 : u = 0 := by cases he; rfl
      subst hu0
      have hb : readB s = (0, false) := read_none (by rw [readE, if_pos (.inl hm)])
      rw [hb]
      have hne : ((decB 0).toList == s.toList) = false := by
        rw [Bool.eq_false_iff, ne_eq, bytes_eq]
        rintro rfl
        rw [show decB 0 = mkW [48] from dec1 (d := 0) (by decide)] at hm
        exact absurd hm (by decide)
      have e0 : IntKind.i64.wrap (0 - ((0 : Nat) : Int)) = 0 := by decide
      exact ⟨fun _ => ⟨e0, by rw [e0]; exact hne, trivial⟩, fun _ => ⟨rfl, hne, trivial⟩⟩
    · have hr : readB s = ((if negB s.data.toList = true then -(u : Int) else u), ((decB (if negB s.data.toList = true then -(u : Int) else u)).data.toList == s.data.toList)) := by
        rw [readB, readE, if_neg (by rintro (q | q); exact hm q; omega), he]
        dsimp only
        rw [if_neg (by omega)]
      rw [hr, toList_data, toList_data, toList_data, hn]
      refine ⟨fun h4 => ?_, fun h4 => ?_⟩
      · rw [if_pos (by simp only [beq_iff_eq] at h4 ⊢; omega), show IntKind.i64.wrap (0 - (u : Int)) = -(u : Int) by rw [IntKind.wrap_i64]; omega]
        exact ⟨rfl, rfl, trivial⟩
      · rw [if_neg (by simp only [beq_eq_false_iff_ne, ne_eq, beq_iff_eq] at h4 ⊢; omega)]
        exact ⟨rfl, rfl, trivial⟩
abbrev N6 : List (Nat × Spec) := (41, .tot (tS [pS] [pI, pB] numR)) :: N5
theorem N6_all : ∀ p ∈ N6, Valid Tryz.prog p.1 p.2 := vcons v41 N5_all
theorem N6_ok : ∀ f S, spL N6 f = some S → Valid Tryz.prog f S := spL_ok N6_all
end Go.Proofs.YtnbbooilapelmaaGreatDoor.V

namespace Go.Proofs.YtnbbooilapelmaaGreatDoor.V
open Go.RowKit Go.Proofs.YtnbbooilapelmaaGreatDoor
set_option linter.unusedSimpArgs false
theorem count_any (s : ByteArray) (b : UInt8) (w : World) : Calls Tryz.prog 74 #[.string s, .string ⟨#[b]⟩] w fun e w' => e = .returned (.int .i64 (Lib.countByte s.data.toList b : Nat)) ∧ w' = w :=
  Go.Proofs.Any.strings_Count_one { Tryz.lays146 with } s b w
theorem count_le (b : UInt8) (l : List UInt8) : Lib.countByte l b ≤ l.length := by
  unfold Lib.countByte
  exact List.count_le_length
theorem count_cut : ∀ l : List UInt8, (cutL l).length = Lib.countByte l 32 + 1
  | [] => rfl
  | c :: r => by
    have ih := count_cut r
    unfold Lib.countByte at ih ⊢
    rw [List.count_cons, cutL]
    split
    · rename_i h; rw [List.length_cons, ih]; simp [h]
    · rename_i h
      have hb : (c == 32) = false := by simpa using h
      rw [hb]
      split
      · rename_i w l e; rw [e] at ih; simpa using ih
      · rename_i e; exact absurd e (cutL_ne _)
/-- strings.Count, of one byte. -/
def cntS (args : List Vl) : Option Rs := match args with
  | [.one (.val (.string s)), .one (.val (.string c))] => (match Nat.beq c.size 1 with | true => some (.v (.one (.val (.int .i64 (Lib.countByte s.data.toList (c.data.getD 0 0) : Nat))))) | false => none)
  | _ => none
theorem v74 : Valid Tryz.prog 74 (.tot cntS) := by
  refine ⟨call74, fun args r hS β F w vs hF hd => ?_⟩
  unfold cntS at hS
  split at hS
  case h_2 => cases hS
  rename_i s c
  split at hS
  case h_2 => cases hS
  rename_i hc
  cases hS
  obtain ⟨b, rfl⟩ : ∃ b, c = ⟨#[b]⟩ := by
    obtain ⟨⟨l⟩⟩ := c
    have hc : l.length = 1 := Nat.eq_of_beq_eq_true hc
    match l, hc with
    | [b], _ => exact ⟨b, rfl⟩
  obtain ⟨u, r, rfl, ⟨rfl, h1⟩, u2, r2, rfl, ⟨rfl, h2⟩, h3⟩ := hd
  obtain rfl : r2 = [] := h3
  refine ⟨.int .i64 (Lib.countByte s.data.toList b : Nat), ⟨rfl, ?_⟩, fun w' hk hs => (count_any s b w').mono ?_⟩
  · have := count_le b s.data.toList
    have h4 : s.size ≤ maxLen := h1
    have hmx : (maxLen : Int) ≤ 9223372036854775807 := by decide
    rw [size_list] at this
    show -9223372036854775808 ≤ _ ∧ _ ≤ 9223372036854775807
    show _ ≤ ((Lib.countByte s.data.toList b : Nat) : Int) ∧ ((Lib.countByte s.data.toList b : Nat) : Int) ≤ _
    omega
  · rintro e w2 ⟨rfl, rfl⟩
    exact ⟨rfl, Below.refl _ _⟩
/-- strings.Index, of one byte. -/
def ixS (args : List Vl) : Option Rs := match args with
  | [.one (.val (.string s)), .one (.val (.string c))] => (match Nat.beq c.size 1 with | true => some (.v (.one (.val (.int .i64 (Lib.indexByte s.data.toList (c.data.getD 0 0)))))) | false => none)
  | _ => none
theorem v62 : Valid Tryz.prog 62 (.tot ixS) := by
  refine valid_tot mixed Tbl_ok N6_ok Tryz.func62 c62 fun args r hS hr => ?_
  unfold ixS at hS
  split at hS
  case h_2 => cases hS
  rename_i s c
  split at hS
  case h_2 => cases hS
  rename_i hc
  cases hS
  obtain ⟨b, rfl⟩ : ∃ b, c = ⟨#[b]⟩ := by
    obtain ⟨⟨l⟩⟩ := c
    have hc : l.length = 1 := Nat.eq_of_beq_eq_true hc
    match l, hc with
    | [b], _ => exact ⟨b, rfl⟩
  refine ⟨rfl, rfl, noLoop, ?_⟩
  refine Eq.mp (by kernel_rfl : ((((↑(ByteArray.mk (b :: ([] : List UInt8)).toArray).size : Int) == (0 : Int) || (ByteArray.mk (b :: ([] : List UInt8)).toArray).toList == s.toList) = true → (0 : Int) = Lib.indexByte s.data.toList ((b :: ([] : List UInt8)).toArray.getD (0 : Nat) (0 : UInt8)) ∧ True) ∧ (((↑(ByteArray.mk (b :: ([] : List UInt8)).toArray).size : Int) == (0 : Int) || (ByteArray.mk (b :: ([] : List UInt8)).toArray).toList == s.toList) = false → (((↑(ByteArray.mk (b :: ([] : List UInt8)).toArray).size : Int) == (1 : Int)) = true → ((0 : Int) ≤ (0 : Int) ∧ (0 : Int) < (↑(ByteArray.mk (b :: ([] : List UInt8)).toArray).size : Int)) ∧ ∀ (y : UInt8), (ByteArray.mk (b :: ([] : List UInt8)).toArray)[Int.toNat (0 : Int)]? = some y → Lib.indexByte s.data.toList (↑y.toNat : Int).toNat.toUInt8 = Lib.indexByte s.data.toList ((b :: ([] : List UInt8)).toArray.getD (0 : Nat) (0 : UInt8)) ∧ True) ∧ (((↑(ByteArray.mk (b :: ([] : List UInt8)).toArray).size : Int) == (1 : Int)) = false → (decide ((↑(ByteArray.mk (b :: ([] : List UInt8)).toArray).size : Int) ≥ (↑s.size : Int)) = true → (-1 : Int) = Lib.indexByte s.data.toList ((b :: ([] : List UInt8)).toArray.getD (0 : Nat) (0 : UInt8)) ∧ True) ∧ (decide ((↑(ByteArray.mk (b :: ([] : List UInt8)).toArray).size : Int) ≥ (↑s.size : Int)) = false → False)))) = _) ?_
  have hb : (ByteArray.mk #[b])[Int.toNat 0]? = some b := rfl
  have hz : ((ByteArray.mk #[b]).size : Int) = 1 := rfl
  refine ⟨fun h => ⟨?_, trivial⟩, fun _ => ⟨fun _ => ⟨⟨by omega, by omega⟩, fun y hy => ?_⟩, fun h => ?_⟩⟩
  · simp only [Bool.or_eq_true] at h
    rcases h with h | h
    · cases h
    · obtain rfl := bytes_eq.1 h
      simp [Lib.indexByte]
  · rw [hb] at hy
    cases hy
    simp
  · cases h
abbrev N7 : List (Nat × Spec) := (62, .tot ixS) :: (74, .tot cntS) :: N6
theorem N7_all : ∀ p ∈ N7, Valid Tryz.prog p.1 p.2 := vcons v62 (vcons v74 N6_all)
theorem N7_ok : ∀ f S, spL N7 f = some S → Valid Tryz.prog f S := spL_ok N7_all
def sp : ByteArray := ⟨#[32]⟩
structure I61 (W : List ByteArray) (N : Nat) (x : Nat × ByteArray) : Prop where
  i : x.1 ≤ N
  s : x.2.size ≤ 1000000
  w : wd x.2 = W.drop x.1
  n : W.length = N + 1
def rowS (W : List ByteArray) (N i : Nat) : List ByteArray := W.take i ++ List.replicate (N + 1 - i) ⟨#[]⟩
abbrev lp61 (W : List ByteArray) (N : Nat) : Nat → Option LoopSp := fun r => match r with
  | 11 => some { X := Nat × ByteArray, sl := fun x => [(0, .one (.val (.string x.2))), (1, .one (.val (.string sp))), (2, .one (vi 0)), (3, .one (vi N)), (9, .one (.sl 0)), (10, .one (vi x.1))], h := fun x => [(0, .own 9 .str (rowS W N x.1))], nx := 1, inv := fun x => I61 W N x, mu := fun x => N - x.1 }
  | _ => none
abbrev pre61 (x : ByteArray × ByteArray × Int × Int) : Prop := x.2.1 = sp ∧ x.1.size ≤ 1000000 ∧ x.2.2.1 = 0 ∧ x.2.2.2 = -1
theorem wd_len1 (s : ByteArray) : 1 ≤ (wd s).length := by rw [wd, List.length_map, count_cut]; omega
theorem wd_len (s : ByteArray) : (wd s).length = Lib.countByte s.data.toList 32 + 1 := by rw [wd, List.length_map, count_cut]
theorem idx_miss {l : List UInt8} {c : UInt8} (h : c ∉ l) : Lib.indexByte l c = -1 := by
  induction l with
  | nil => rfl
  | cons b r ih =>
    have h1 : b ≠ c := fun e => h (by simp [e])
    have h2 := ih (fun e => h (by simp [e]))
    simp [Lib.indexByte, h1, h2]
theorem idx_hit {c : UInt8} : ∀ {a b : List UInt8}, c ∉ a → Lib.indexByte (a ++ c :: b) c = (a.length : Int)
  | [], b, _ => by simp [Lib.indexByte]
  | x :: a, b, h => by
    have h1 : (x == c) = false := by rw [beq_eq_false_iff_ne]; exact fun e => h (by simp [e])
    have h2 := idx_hit (c := c) (a := a) (b := b) (fun e => h (by simp [e]))
    rw [List.cons_append, Lib.indexByte, h1, h2, show (((a.length : Int)) == -1) = false from beq_eq_false_iff_ne.2 (by omega)]
    simp
/-- A text is one word, or its first word, a blank, and the rest. -/
theorem wd_step (s : ByteArray) : (Lib.indexByte s.data.toList 32 = -1 ∧ wd s = [s]) ∨ ∃ m : Nat, Lib.indexByte s.data.toList 32 = m ∧ m < s.size ∧ wd s = s.extract 0 m :: wd (s.extract (m + 1) s.size) := by
  by_cases h : (32 : UInt8) ∈ s.data.toList
  · obtain ⟨a, b, e, ha⟩ := List.eq_append_cons_of_mem h
    refine .inr ⟨a.length, by rw [e, idx_hit ha], ?_, ?_⟩
    · rw [← size_list, e]; simp
    · have hsz := size_list s
      rw [e] at hsz
      simp only [List.length_append, List.length_cons] at hsz
      have e1 : s.extract 0 a.length = mkW a := by rw [extract_eq, e]; simp
      have e2 : (s.extract (a.length + 1) s.size).data.toList = b := by
        rw [extract_eq, mkW_list, e, show a.length + 1 = (a ++ [32]).length by simp, show a ++ 32 :: b = (a ++ [32]) ++ b by simp, List.drop_left]
        rw [List.take_of_length_le]
        simp; omega
      rw [wd, e, cutL_at ha, List.map_cons, e1, wd, e2]
  · refine .inl ⟨idx_miss h, ?_⟩
    rw [wd, cutL_none h, List.map_singleton, mkW_data]
theorem rowS_len {W : List ByteArray} {N i : Nat} (hW : W.length = N + 1) (hi : i ≤ N) : (rowS W N i).length = N + 1 := by
  rw [rowS, List.length_append, List.length_take, List.length_replicate]; omega
theorem rowS_set {W : List ByteArray} {N i : Nat} {z : ByteArray} (hW : W.length = N + 1) (hi : i ≤ N) (hz : W[i]? = some z) : (rowS W N i).set i z = rowS W N (i + 1) := by
  apply List.ext_getElem?
  intro j
  have hlen := rowS_len hW hi
  rw [List.getElem?_set]
  by_cases hj : i = j
  · subst hj
    rw [if_pos rfl, if_pos (by omega), rowS, List.getElem?_append_left (by rw [List.length_take]; omega), List.getElem?_take_of_lt (by omega), hz]
  · rw [if_neg hj, rowS, rowS]
    rcases Nat.lt_or_ge j i with h | h
    · rw [List.getElem?_append_left (by rw [List.length_take]; omega), List.getElem?_append_left (by rw [List.length_take]; omega), List.getElem?_take_of_lt (by omega), List.getElem?_take_of_lt (by omega)]
    · rw [List.getElem?_append_right (by rw [List.length_take]; omega), List.getElem?_append_right (by rw [List.length_take]; omega), List.length_take, List.length_take, List.getElem?_replicate, List.getElem?_replicate]
      congr 1
      simp only [eq_iff_iff]
      omega
theorem rowS_end {W : List ByteArray} {N : Nat} {z : ByteArray} (hW : W.length = N + 1) (hz : W[N]? = some z) : ((rowS W N N).set N z).take (N + 1) = W := by
  rw [rowS_set hW (Nat.le_refl _) hz, rowS]
  have : N + 1 - (N + 1) = 0 := by omega
  rw [this, List.replicate_zero, List.append_nil, List.take_take, Nat.min_self, List.take_of_length_le (by omega)]
theorem v61 : Valid Tryz.prog 61 (.pre (rS [pS, pS, pI, pI] [pSs] pre61 (fun x y => y = wd x.1))) := by
  refine rS_ok mixed Tbl_ok N7_ok Tryz.func61 call61 rfl ?_
  rintro ⟨(s : ByteArray), (c : ByteArray), (a : Int), (b : Int)⟩ hr ⟨hc, hs, ha, hb⟩
  have hc : c = sp := hc
  have ha : a = 0 := ha
  have hb : b = -1 := hb
  subst hc ha hb
  have hs : s.size ≤ 1000000 := hs
  refine ⟨lp61 (wd s) ((wd s).length - 1), ?_⟩
  refine Eq.mp (by kernel_rfl : ((((-1 : Int) == (0 : Int)) = true → ∃ (y : Tup (pSs :: ([] : List PS))), y = wd s ∧ y = ([] : List ByteArray) ∧ True) ∧ (((-1 : Int) == (0 : Int)) = false → ((sp.toList == (ByteArray.mk ([] : List UInt8).toArray).toList) = true → False) ∧ ((sp.toList == (ByteArray.mk ([] : List UInt8).toArray).toList) = false → (decide ((-1 : Int) < (0 : Int)) = true → ((-9223372036854775808 : Int) ≤ (↑(Lib.countByte s.data.toList (((32 : UInt8) :: ([] : List UInt8)).toArray.getD (0 : Nat) (0 : UInt8))) : Int) + (1 : Int) ∧ (↑(Lib.countByte s.data.toList (((32 : UInt8) :: ([] : List UInt8)).toArray.getD (0 : Nat) (0 : UInt8))) : Int) + (1 : Int) ≤ (9223372036854775807 : Int)) ∧ ((-9223372036854775808 : Int) ≤ (↑s.size : Int) + (1 : Int) ∧ (↑s.size : Int) + (1 : Int) ≤ (9223372036854775807 : Int)) ∧ (((match true with | true => min ((↑(Lib.countByte s.data.toList (((32 : UInt8) :: ([] : List UInt8)).toArray.getD (0 : Nat) (0 : UInt8))) : Int) + (1 : Int)) ((↑s.size : Int) + (1 : Int)) | false => max ((↑(Lib.countByte s.data.toList (((32 : UInt8) :: ([] : List UInt8)).toArray.getD (0 : Nat) (0 : UInt8))) : Int) + (1 : Int)) ((↑s.size : Int) + (1 : Int))) = match true with | true => min ((↑(Lib.countByte s.data.toList (((32 : UInt8) :: ([] : List UInt8)).toArray.getD (0 : Nat) (0 : UInt8))) : Int) + (1 : Int)) ((↑s.size : Int) + (1 : Int)) | false => max ((↑(Lib.countByte s.data.toList (((32 : UInt8) :: ([] : List UInt8)).toArray.getD (0 : Nat) (0 : UInt8))) : Int) + (1 : Int)) ((↑s.size : Int) + (1 : Int))) ∧ ((0 : Int) ≤ match true with | true => min ((↑(Lib.countByte s.data.toList (((32 : UInt8) :: ([] : List UInt8)).toArray.getD (0 : Nat) (0 : UInt8))) : Int) + (1 : Int)) ((↑s.size : Int) + (1 : Int)) | false => max ((↑(Lib.countByte s.data.toList (((32 : UInt8) :: ([] : List UInt8)).toArray.getD (0 : Nat) (0 : UInt8))) : Int) + (1 : Int)) ((↑s.size : Int) + (1 : Int))) ∧ (match true with | true => min ((↑(Lib.countByte s.data.toList (((32 : UInt8) :: ([] : List UInt8)).toArray.getD (0 : Nat) (0 : UInt8))) : Int) + (1 : Int)) ((↑s.size : Int) + (1 : Int)) | false => max ((↑(Lib.countByte s.data.toList (((32 : UInt8) :: ([] : List UInt8)).toArray.getD (0 : Nat) (0 : UInt8))) : Int) + (1 : Int)) ((↑s.size : Int) + (1 : Int))) * (↑(16 : Nat) : Int) ≤ (140737488355328 : Int)) ∧ ((-9223372036854775808 : Int) ≤ (match true with | true => min ((↑(Lib.countByte s.data.toList (((32 : UInt8) :: ([] : List UInt8)).toArray.getD (0 : Nat) (0 : UInt8))) : Int) + (1 : Int)) ((↑s.size : Int) + (1 : Int)) | false => max ((↑(Lib.countByte s.data.toList (((32 : UInt8) :: ([] : List UInt8)).toArray.getD (0 : Nat) (0 : UInt8))) : Int) + (1 : Int)) ((↑s.size : Int) + (1 : Int))) - (1 : Int) ∧ (match true with | true => min ((↑(Lib.countByte s.data.toList (((32 : UInt8) :: ([] : List UInt8)).toArray.getD (0 : Nat) (0 : UInt8))) : Int) + (1 : Int)) ((↑s.size : Int) + (1 : Int)) | false => max ((↑(Lib.countByte s.data.toList (((32 : UInt8) :: ([] : List UInt8)).toArray.getD (0 : Nat) (0 : UInt8))) : Int) + (1 : Int)) ((↑s.size : Int) + (1 : Int))) - (1 : Int) ≤ (9223372036854775807 : Int)) ∧ (∃ (x : Nat × ByteArray), I61 (wd s) ((wd s).length - (1 : Nat)) x ∧ Value.string s = Value.string x.snd ∧ Value.string sp = Value.string sp ∧ (0 : Int) = (0 : Int) ∧ (match true with | true => min ((↑(Lib.countByte s.data.toList (((32 : UInt8) :: ([] : List UInt8)).toArray.getD (0 : Nat) (0 : UInt8))) : Int) + (1 : Int)) ((↑s.size : Int) + (1 : Int)) | false => max ((↑(Lib.countByte s.data.toList (((32 : UInt8) :: ([] : List UInt8)).toArray.getD (0 : Nat) (0 : UInt8))) : Int) + (1 : Int)) ((↑s.size : Int) + (1 : Int))) - (1 : Int) = (↑((wd s).length - (1 : Nat)) : Int) ∧ (0 : Int) = (↑x.fst : Int) ∧ List.replicate (match true with | true => min ((↑(Lib.countByte s.data.toList (((32 : UInt8) :: ([] : List UInt8)).toArray.getD (0 : Nat) (0 : UInt8))) : Int) + (1 : Int)) ((↑s.size : Int) + (1 : Int)) | false => max ((↑(Lib.countByte s.data.toList (((32 : UInt8) :: ([] : List UInt8)).toArray.getD (0 : Nat) (0 : UInt8))) : Int) + (1 : Int)) ((↑s.size : Int) + (1 : Int))).toNat ByteArray.empty ≍ rowS (wd s) ((wd s).length - (1 : Nat)) x.fst ∧ True) ∧ ∀ (x : Nat × ByteArray), I61 (wd s) ((wd s).length - (1 : Nat)) x → (decide ((↑x.fst : Int) < (↑((wd s).length - (1 : Nat)) : Int)) = true → (decide (Lib.indexByte x.snd.data.toList (((32 : UInt8) :: ([] : List UInt8)).toArray.getD (0 : Nat) (0 : UInt8)) < (0 : Int)) = true → ((0 : Int) ≤ (↑x.fst : Int) ∧ (↑x.fst : Int) < (↑(rowS (wd s) ((wd s).length - (1 : Nat)) x.fst).length : Int)) ∧ (↑x.fst : Int).toNat < (rowS (wd s) ((wd s).length - (1 : Nat)) x.fst).length ∧ ∀ (z : ByteArray), (rowS (wd s) ((wd s).length - (1 : Nat)) x.fst)[(↑x.fst : Int).toNat]? = some z → ((-9223372036854775808 : Int) ≤ (↑x.fst : Int) + (1 : Int) ∧ (↑x.fst : Int) + (1 : Int) ≤ (9223372036854775807 : Int)) ∧ ((0 : Int) ≤ (↑x.fst : Int) + (1 : Int) ∧ (↑x.fst : Int) + (1 : Int) ≤ (↑((rowS (wd s) ((wd s).length - (1 : Nat)) x.fst).set (↑x.fst : Int).toNat x.snd).length : Int)) ∧ ∃ (y : Tup (pSs :: ([] : List PS))), y = wd s ∧ ((0 : Nat) + ((↑x.fst : Int) + (1 : Int)).toNat ≤ ((rowS (wd s) ((wd s).length - (1 : Nat)) x.fst).set (↑x.fst : Int).toNat x.snd).length ∧ List.take ((↑x.fst : Int) + (1 : Int)).toNat (List.drop (0 : Nat) ((rowS (wd s) ((wd s).length - (1 : Nat)) x.fst).set (↑x.fst : Int).toNat x.snd)) ≍ y) ∧ True) ∧ (decide (Lib.indexByte x.snd.data.toList (((32 : UInt8) :: ([] : List UInt8)).toArray.getD (0 : Nat) (0 : UInt8)) < (0 : Int)) = false → ((-9223372036854775808 : Int) ≤ Lib.indexByte x.snd.data.toList (((32 : UInt8) :: ([] : List UInt8)).toArray.getD (0 : Nat) (0 : UInt8)) + (0 : Int) ∧ Lib.indexByte x.snd.data.toList (((32 : UInt8) :: ([] : List UInt8)).toArray.getD (0 : Nat) (0 : UInt8)) + (0 : Int) ≤ (9223372036854775807 : Int)) ∧ ((0 : Int) ≤ Lib.indexByte x.snd.data.toList (((32 : UInt8) :: ([] : List UInt8)).toArray.getD (0 : Nat) (0 : UInt8)) + (0 : Int) ∧ Lib.indexByte x.snd.data.toList (((32 : UInt8) :: ([] : List UInt8)).toArray.getD (0 : Nat) (0 : UInt8)) + (0 : Int) ≤ (↑x.snd.size : Int)) ∧ ((0 : Int) ≤ (↑x.fst : Int) ∧ (↑x.fst : Int) < (↑(rowS (wd s) ((wd s).length - (1 : Nat)) x.fst).length : Int)) ∧ (↑x.fst : Int).toNat < (rowS (wd s) ((wd s).length - (1 : Nat)) x.fst).length ∧ ∀ (z : ByteArray), (rowS (wd s) ((wd s).length - (1 : Nat)) x.fst)[(↑x.fst : Int).toNat]? = some z → ((-9223372036854775808 : Int) ≤ Lib.indexByte x.snd.data.toList (((32 : UInt8) :: ([] : List UInt8)).toArray.getD (0 : Nat) (0 : UInt8)) + (↑sp.size : Int) ∧ Lib.indexByte x.snd.data.toList (((32 : UInt8) :: ([] : List UInt8)).toArray.getD (0 : Nat) (0 : UInt8)) + (↑sp.size : Int) ≤ (9223372036854775807 : Int)) ∧ ((0 : Int) ≤ Lib.indexByte x.snd.data.toList (((32 : UInt8) :: ([] : List UInt8)).toArray.getD (0 : Nat) (0 : UInt8)) + (↑sp.size : Int) ∧ Lib.indexByte x.snd.data.toList (((32 : UInt8) :: ([] : List UInt8)).toArray.getD (0 : Nat) (0 : UInt8)) + (↑sp.size : Int) ≤ (↑x.snd.size : Int)) ∧ ((-9223372036854775808 : Int) ≤ (↑x.fst : Int) + (1 : Int) ∧ (↑x.fst : Int) + (1 : Int) ≤ (9223372036854775807 : Int)) ∧ ∃ (y : Nat × ByteArray), I61 (wd s) ((wd s).length - (1 : Nat)) y ∧ (wd s).length - (1 : Nat) - y.fst < (wd s).length - (1 : Nat) - x.fst ∧ Value.string (x.snd.extract (Lib.indexByte x.snd.data.toList (((32 : UInt8) :: ([] : List UInt8)).toArray.getD (0 : Nat) (0 : UInt8)) + (↑sp.size : Int)).toNat ((Lib.indexByte x.snd.data.toList (((32 : UInt8) :: ([] : List UInt8)).toArray.getD (0 : Nat) (0 : UInt8)) + (↑sp.size : Int)).toNat + (x.snd.size - (Lib.indexByte x.snd.data.toList (((32 : UInt8) :: ([] : List UInt8)).toArray.getD (0 : Nat) (0 : UInt8)) + (↑sp.size : Int)).toNat))) = Value.string y.snd ∧ Value.string sp = Value.string sp ∧ (0 : Int) = (0 : Int) ∧ (↑((wd s).length - (1 : Nat)) : Int) = (↑((wd s).length - (1 : Nat)) : Int) ∧ (↑x.fst : Int) + (1 : Int) = (↑y.fst : Int) ∧ (rowS (wd s) ((wd s).length - (1 : Nat)) x.fst).set (↑x.fst : Int).toNat (x.snd.extract (0 : Nat) ((0 : Nat) + (Lib.indexByte x.snd.data.toList (((32 : UInt8) :: ([] : List UInt8)).toArray.getD (0 : Nat) (0 : UInt8)) + (0 : Int)).toNat)) ≍ rowS (wd s) ((wd s).length - (1 : Nat)) y.fst ∧ True)) ∧ (decide ((↑x.fst : Int) < (↑((wd s).length - (1 : Nat)) : Int)) = false → ((0 : Int) ≤ (↑x.fst : Int) ∧ (↑x.fst : Int) < (↑(rowS (wd s) ((wd s).length - (1 : Nat)) x.fst).length : Int)) ∧ (↑x.fst : Int).toNat < (rowS (wd s) ((wd s).length - (1 : Nat)) x.fst).length ∧ ∀ (z : ByteArray), (rowS (wd s) ((wd s).length - (1 : Nat)) x.fst)[(↑x.fst : Int).toNat]? = some z → ((-9223372036854775808 : Int) ≤ (↑x.fst : Int) + (1 : Int) ∧ (↑x.fst : Int) + (1 : Int) ≤ (9223372036854775807 : Int)) ∧ ((0 : Int) ≤ (↑x.fst : Int) + (1 : Int) ∧ (↑x.fst : Int) + (1 : Int) ≤ (↑((rowS (wd s) ((wd s).length - (1 : Nat)) x.fst).set (↑x.fst : Int).toNat x.snd).length : Int)) ∧ ∃ (y : Tup (pSs :: ([] : List PS))), y = wd s ∧ ((0 : Nat) + ((↑x.fst : Int) + (1 : Int)).toNat ≤ ((rowS (wd s) ((wd s).length - (1 : Nat)) x.fst).set (↑x.fst : Int).toNat x.snd).length ∧ List.take ((↑x.fst : Int) + (1 : Int)).toNat (List.drop (0 : Nat) ((rowS (wd s) ((wd s).length - (1 : Nat)) x.fst).set (↑x.fst : Int).toNat x.snd)) ≍ y) ∧ True)) ∧ (decide ((-1 : Int) < (0 : Int)) = false → ((-9223372036854775808 : Int) ≤ (↑s.size : Int) + (1 : Int) ∧ (↑s.size : Int) + (1 : Int) ≤ (9223372036854775807 : Int)) ∧ (((match true with | true => min (-1 : Int) ((↑s.size : Int) + (1 : Int)) | false => max (-1 : Int) ((↑s.size : Int) + (1 : Int))) = match true with | true => min (-1 : Int) ((↑s.size : Int) + (1 : Int)) | false => max (-1 : Int) ((↑s.size : Int) + (1 : Int))) ∧ ((0 : Int) ≤ match true with | true => min (-1 : Int) ((↑s.size : Int) + (1 : Int)) | false => max (-1 : Int) ((↑s.size : Int) + (1 : Int))) ∧ (match true with | true => min (-1 : Int) ((↑s.size : Int) + (1 : Int)) | false => max (-1 : Int) ((↑s.size : Int) + (1 : Int))) * (↑(16 : Nat) : Int) ≤ (140737488355328 : Int)) ∧ ((-9223372036854775808 : Int) ≤ (match true with | true => min (-1 : Int) ((↑s.size : Int) + (1 : Int)) | false => max (-1 : Int) ((↑s.size : Int) + (1 : Int))) - (1 : Int) ∧ (match true with | true => min (-1 : Int) ((↑s.size : Int) + (1 : Int)) | false => max (-1 : Int) ((↑s.size : Int) + (1 : Int))) - (1 : Int) ≤ (9223372036854775807 : Int)) ∧ (∃ (x : Nat × ByteArray), I61 (wd s) ((wd s).length - (1 : Nat)) x ∧ Value.string s = Value.string x.snd ∧ Value.string sp = Value.string sp ∧ (0 : Int) = (0 : Int) ∧ (match true with | true => min (-1 : Int) ((↑s.size : Int) + (1 : Int)) | false => max (-1 : Int) ((↑s.size : Int) + (1 : Int))) - (1 : Int) = (↑((wd s).length - (1 : Nat)) : Int) ∧ (0 : Int) = (↑x.fst : Int) ∧ List.replicate (match true with | true => min (-1 : Int) ((↑s.size : Int) + (1 : Int)) | false => max (-1 : Int) ((↑s.size : Int) + (1 : Int))).toNat ByteArray.empty ≍ rowS (wd s) ((wd s).length - (1 : Nat)) x.fst ∧ True) ∧ ∀ (x : Nat × ByteArray), I61 (wd s) ((wd s).length - (1 : Nat)) x → (decide ((↑x.fst : Int) < (↑((wd s).length - (1 : Nat)) : Int)) = true → (decide (Lib.indexByte x.snd.data.toList (((32 : UInt8) :: ([] : List UInt8)).toArray.getD (0 : Nat) (0 : UInt8)) < (0 : Int)) = true → ((0 : Int) ≤ (↑x.fst : Int) ∧ (↑x.fst : Int) < (↑(rowS (wd s) ((wd s).length - (1 : Nat)) x.fst).length : Int)) ∧ (↑x.fst : Int).toNat < (rowS (wd s) ((wd s).length - (1 : Nat)) x.fst).length ∧ ∀ (z : ByteArray), (rowS (wd s) ((wd s).length - (1 : Nat)) x.fst)[(↑x.fst : Int).toNat]? = some z → ((-9223372036854775808 : Int) ≤ (↑x.fst : Int) + (1 : Int) ∧ (↑x.fst : Int) + (1 : Int) ≤ (9223372036854775807 : Int)) ∧ ((0 : Int) ≤ (↑x.fst : Int) + (1 : Int) ∧ (↑x.fst : Int) + (1 : Int) ≤ (↑((rowS (wd s) ((wd s).length - (1 : Nat)) x.fst).set (↑x.fst : Int).toNat x.snd).length : Int)) ∧ ∃ (y : Tup (pSs :: ([] : List PS))), y = wd s ∧ ((0 : Nat) + ((↑x.fst : Int) + (1 : Int)).toNat ≤ ((rowS (wd s) ((wd s).length - (1 : Nat)) x.fst).set (↑x.fst : Int).toNat x.snd).length ∧ List.take ((↑x.fst : Int) + (1 : Int)).toNat (List.drop (0 : Nat) ((rowS (wd s) ((wd s).length - (1 : Nat)) x.fst).set (↑x.fst : Int).toNat x.snd)) ≍ y) ∧ True) ∧ (decide (Lib.indexByte x.snd.data.toList (((32 : UInt8) :: ([] : List UInt8)).toArray.getD (0 : Nat) (0 : UInt8)) < (0 : Int)) = false → ((-9223372036854775808 : Int) ≤ Lib.indexByte x.snd.data.toList (((32 : UInt8) :: ([] : List UInt8)).toArray.getD (0 : Nat) (0 : UInt8)) + (0 : Int) ∧ Lib.indexByte x.snd.data.toList (((32 : UInt8) :: ([] : List UInt8)).toArray.getD (0 : Nat) (0 : UInt8)) + (0 : Int) ≤ (9223372036854775807 : Int)) ∧ ((0 : Int) ≤ Lib.indexByte x.snd.data.toList (((32 : UInt8) :: ([] : List UInt8)).toArray.getD (0 : Nat) (0 : UInt8)) + (0 : Int) ∧ Lib.indexByte x.snd.data.toList (((32 : UInt8) :: ([] : List UInt8)).toArray.getD (0 : Nat) (0 : UInt8)) + (0 : Int) ≤ (↑x.snd.size : Int)) ∧ ((0 : Int) ≤ (↑x.fst : Int) ∧ (↑x.fst : Int) < (↑(rowS (wd s) ((wd s).length - (1 : Nat)) x.fst).length : Int)) ∧ (↑x.fst : Int).toNat < (rowS (wd s) ((wd s).length - (1 : Nat)) x.fst).length ∧ ∀ (z : ByteArray), (rowS (wd s) ((wd s).length - (1 : Nat)) x.fst)[(↑x.fst : Int).toNat]? = some z → ((-9223372036854775808 : Int) ≤ Lib.indexByte x.snd.data.toList (((32 : UInt8) :: ([] : List UInt8)).toArray.getD (0 : Nat) (0 : UInt8)) + (↑sp.size : Int) ∧ Lib.indexByte x.snd.data.toList (((32 : UInt8) :: ([] : List UInt8)).toArray.getD (0 : Nat) (0 : UInt8)) + (↑sp.size : Int) ≤ (9223372036854775807 : Int)) ∧ ((0 : Int) ≤ Lib.indexByte x.snd.data.toList (((32 : UInt8) :: ([] : List UInt8)).toArray.getD (0 : Nat) (0 : UInt8)) + (↑sp.size : Int) ∧ Lib.indexByte x.snd.data.toList (((32 : UInt8) :: ([] : List UInt8)).toArray.getD (0 : Nat) (0 : UInt8)) + (↑sp.size : Int) ≤ (↑x.snd.size : Int)) ∧ ((-9223372036854775808 : Int) ≤ (↑x.fst : Int) + (1 : Int) ∧ (↑x.fst : Int) + (1 : Int) ≤ (9223372036854775807 : Int)) ∧ ∃ (y : Nat × ByteArray), I61 (wd s) ((wd s).length - (1 : Nat)) y ∧ (wd s).length - (1 : Nat) - y.fst < (wd s).length - (1 : Nat) - x.fst ∧ Value.string (x.snd.extract (Lib.indexByte x.snd.data.toList (((32 : UInt8) :: ([] : List UInt8)).toArray.getD (0 : Nat) (0 : UInt8)) + (↑sp.size : Int)).toNat ((Lib.indexByte x.snd.data.toList (((32 : UInt8) :: ([] : List UInt8)).toArray.getD (0 : Nat) (0 : UInt8)) + (↑sp.size : Int)).toNat + (x.snd.size - (Lib.indexByte x.snd.data.toList (((32 : UInt8) :: ([] : List UInt8)).toArray.getD (0 : Nat) (0 : UInt8)) + (↑sp.size : Int)).toNat))) = Value.string y.snd ∧ Value.string sp = Value.string sp ∧ (0 : Int) = (0 : Int) ∧ (↑((wd s).length - (1 : Nat)) : Int) = (↑((wd s).length - (1 : Nat)) : Int) ∧ (↑x.fst : Int) + (1 : Int) = (↑y.fst : Int) ∧ (rowS (wd s) ((wd s).length - (1 : Nat)) x.fst).set (↑x.fst : Int).toNat (x.snd.extract (0 : Nat) ((0 : Nat) + (Lib.indexByte x.snd.data.toList (((32 : UInt8) :: ([] : List UInt8)).toArray.getD (0 : Nat) (0 : UInt8)) + (0 : Int)).toNat)) ≍ rowS (wd s) ((wd s).length - (1 : Nat)) y.fst ∧ True)) ∧ (decide ((↑x.fst : Int) < (↑((wd s).length - (1 : Nat)) : Int)) = false → ((0 : Int) ≤ (↑x.fst : Int) ∧ (↑x.fst : Int) < (↑(rowS (wd s) ((wd s).length - (1 : Nat)) x.fst).length : Int)) ∧ (↑x.fst : Int).toNat < (rowS (wd s) ((wd s).length - (1 : Nat)) x.fst).length ∧ ∀ (z : ByteArray), (rowS (wd s) ((wd s).length - (1 : Nat)) x.fst)[(↑x.fst : Int).toNat]? = some z → ((-9223372036854775808 : Int) ≤ (↑x.fst : Int) + (1 : Int) ∧ (↑x.fst : Int) + (1 : Int) ≤ (9223372036854775807 : Int)) ∧ ((0 : Int) ≤ (↑x.fst : Int) + (1 : Int) ∧ (↑x.fst : Int) + (1 : Int) ≤ (↑((rowS (wd s) ((wd s).length - (1 : Nat)) x.fst).set (↑x.fst : Int).toNat x.snd).length : Int)) ∧ ∃ (y : Tup (pSs :: ([] : List PS))), y = wd s ∧ ((0 : Nat) + ((↑x.fst : Int) + (1 : Int)).toNat ≤ ((rowS (wd s) ((wd s).length - (1 : Nat)) x.fst).set (↑x.fst : Int).toNat x.snd).length ∧ List.take ((↑x.fst : Int) + (1 : Int)).toNat (List.drop (0 : Nat) ((rowS (wd s) ((wd s).length - (1 : Nat)) x.fst).set (↑x.fst : Int).toNat x.snd)) ≍ y) ∧ True))))) = _) ?_
  have hl := wd_len s
  have hcl := count_le 32 s.data.toList
  rw [size_list] at hcl
  have eg : ([32] : List UInt8).toArray.getD 0 0 = 32 := rfl
  have e1 : min (((Lib.countByte s.data.toList 32 : Nat) : Int) + 1) ((s.size : Int) + 1) = ((wd s).length : Int) := by rw [hl]; omega
  have e2 : ((wd s).length : Int) - 1 = (((wd s).length - 1 : Nat) : Int) := by omega
  have hsp : (sp.toList == (ByteArray.mk ([] : List UInt8).toArray).toList) = false := by rw [Bool.eq_false_iff, ne_eq, bytes_eq]; intro e; exact absurd (congrArg ByteArray.size e) (by decide)
  have hs1 : ((sp.size : Nat) : Int) = 1 := rfl
  refine ⟨fun h => absurd h (by decide), fun _ => ⟨fun h => (by rw [hsp] at h; cases h), fun _ => ⟨fun _ => ?_, fun h => absurd h (by decide)⟩⟩⟩
  rw [eg]
  dsimp only
  rw [e1, hs1]
  obtain ⟨N, hN⟩ : ∃ N, (wd s).length = N + 1 := ⟨(wd s).length - 1, by omega⟩
  rw [hN, Nat.add_sub_cancel]
  refine ⟨by omega, by omega, ⟨rfl, by omega, by omega⟩, by omega, ⟨(0, s), ⟨Nat.zero_le _, hs, rfl, hN⟩, rfl, rfl, rfl, by omega, rfl, heq_of_eq ?_, trivial⟩, ?_⟩
  · rw [rowS, List.take_zero, List.nil_append]; rfl
  rintro ⟨i, t⟩ hx
  have hi : i ≤ N := hx.i
  have ht : t.size ≤ 1000000 := hx.s
  have hw : wd t = (wd s).drop i := hx.w
  have hlen := rowS_len hN hi
  have hfst : ∀ {z : ByteArray} {r : List ByteArray}, wd t = z :: r → (wd s)[i]? = some z := fun e => by
    rw [hw] at e
    rw [← List.head?_drop, e]; rfl
  have hcnt : (wd t).length = N + 1 - i := by rw [hw, List.length_drop, hN]
  have fin : i = N → wd t = [t] → (((rowS (wd s) N i).set i t).take (i + 1)) = wd s := fun e e2 => by
    subst e; exact rowS_end hN (hfst e2)
  dsimp only
  rw [hlen, Int.toNat_natCast, List.length_set, hlen, show ((i : Int) + 1).toNat = i + 1 by omega, List.drop_zero]
  rcases wd_step t with ⟨h1, h2⟩ | ⟨m, h1, hm, h2⟩
  · have hiN : i = N := by rw [h2] at hcnt; simp at hcnt; omega
    have ff := fin hiN h2
    rw [h1]
    refine ⟨fun h => ?_, fun _ => ⟨by omega, by omega, fun z hz => ⟨by omega, by omega, wd s, rfl, ⟨by omega, heq_of_eq ff⟩, trivial⟩⟩⟩
    simp only [decide_eq_true_eq] at h; omega
  · have hiN : i < N := by
      rw [h2] at hcnt
      have := wd_len1 (t.extract (m + 1) t.size)
      simp only [List.length_cons] at hcnt; omega
    rw [h1]
    refine ⟨fun _ => ⟨fun h => (by simp only [decide_eq_true_eq] at h; omega), fun _ => ⟨by omega, by omega, by omega, by omega, fun z hz => ⟨by omega, by omega, by omega, (i + 1, t.extract (m + 1) t.size), ⟨by dsimp only; omega, ?_, ?_, hN⟩, by dsimp only; omega, ?_, rfl, rfl, rfl, by simp, heq_of_eq ?_, trivial⟩⟩⟩, fun h => (by simp only [decide_eq_false_iff_not] at h; omega)⟩
    · dsimp only; rw [ByteArray.size_extract]; omega
    · dsimp only
      have : (wd s).drop i = t.extract 0 m :: wd (t.extract (m + 1) t.size) := by rw [← hw, h2]
      rw [← List.drop_drop, this]; rfl
    · rw [show (((m : Int) + 1)).toNat = m + 1 by omega, show m + 1 + (t.size - (m + 1)) = t.size by omega]
    · dsimp only
      rw [show (0 + ((m : Int) + 0).toNat) = m by omega]
      exact rowS_set hN hi (hfst h2)
abbrev pre40 (x : ByteArray × ByteArray) : Prop := x.2 = sp ∧ x.1.size ≤ 1000000
abbrev N8 : List (Nat × Spec) := (61, .pre (rS [pS, pS, pI, pI] [pSs] pre61 (fun x y => y = wd x.1))) :: N7
theorem N8_all : ∀ p ∈ N8, Valid Tryz.prog p.1 p.2 := vcons v61 N7_all
theorem N8_ok : ∀ f S, spL N8 f = some S → Valid Tryz.prog f S := spL_ok N8_all
abbrev splS : Spec := .pre (rS [pS, pS] [pSs] pre40 (fun x y => y = wd x.1))
theorem v40 : Valid Tryz.prog 40 splS := by
  refine rS_ok mixed Tbl_ok N8_ok Tryz.func40 call40 rfl ?_
  rintro ⟨(s : ByteArray), (c : ByteArray)⟩ hr ⟨hc, hs⟩
  refine ⟨noLoop, ?_⟩
  refine Eq.mp (by kernel_rfl : ((c = sp ∧ s.size ≤ (1000000 : Nat) ∧ (0 : Int) = (0 : Int) ∧ (-1 : Int) = (-1 : Int)) ∧ ∀ (y : Tup (pSs :: ([] : List PS))), y = wd s → ∃ (y_1 : Tup (pSs :: ([] : List PS))), y_1 = wd s ∧ y ≍ y_1 ∧ True) = _) ?_
  exact ⟨⟨hc, hs, rfl, rfl⟩, fun y hy => ⟨y, hy, HEq.rfl, trivial⟩⟩
/-- Is a word at the end? -/
def sufB (s p : ByteArray) : Bool := decide (p.size ≤ s.size) && decide (s.extract (s.size - p.size) s.size = p)
def sufF (x : ByteArray × ByteArray) : ByteArray × Bool := match sufB x.1 x.2 with | true => (x.1.extract 0 (x.1.size - x.2.size), true) | false => (x.1, false)
theorem v71 : Valid Tryz.prog 71 (.tot (tS [pS, pS] [pB] fun x => sufB x.1 x.2)) := by
  refine tS_ok mixed Tbl_ok N8_ok Tryz.func71 call71 rfl rfl rfl ?_
  rintro ⟨(s : ByteArray), (c : ByteArray)⟩ hr z hz
  refine ⟨noLoop, ?_⟩
  refine Eq.mp (by kernel_rfl : ((decide ((↑s.size : Int) ≥ (↑c.size : Int)) = true → ((-9223372036854775808 : Int) ≤ (↑s.size : Int) - (↑c.size : Int) ∧ (↑s.size : Int) - (↑c.size : Int) ≤ (9223372036854775807 : Int)) ∧ ((0 : Int) ≤ (↑s.size : Int) - (↑c.size : Int) ∧ (↑s.size : Int) - (↑c.size : Int) ≤ (↑s.size : Int)) ∧ ((s.extract ((↑s.size : Int) - (↑c.size : Int)).toNat (((↑s.size : Int) - (↑c.size : Int)).toNat + (s.size - ((↑s.size : Int) - (↑c.size : Int)).toNat))).toList == c.toList) = z ∧ True) ∧ (decide ((↑s.size : Int) ≥ (↑c.size : Int)) = false → false = z ∧ True)) = _) ?_
  have hz : sufB s c = z := hz
  subst hz
  have hs : s.size ≤ maxLen := hr.1
  have hmx : (maxLen : Int) ≤ 9223372036854775807 := by decide
  refine ⟨fun h => ?_, fun h => ⟨?_, trivial⟩⟩
  · have h : c.size ≤ s.size := by simp only [decide_eq_true_eq] at h; omega
    refine ⟨by omega, by omega, ?_, trivial⟩
    rw [show ((s.size : Int) - (c.size : Int)).toNat = s.size - c.size by omega, show s.size - c.size + (s.size - (s.size - c.size)) = s.size by omega, sufB, decide_eq_true h, Bool.true_and, Bool.eq_iff_iff, bytes_eq, decide_eq_true_eq]
  · rw [sufB, decide_eq_false (by simp only [decide_eq_false_iff_not] at h; omega), Bool.false_and]
abbrev N9 : List (Nat × Spec) := (71, .tot (tS [pS, pS] [pB] fun x => sufB x.1 x.2)) :: (40, splS) :: N8
theorem N9_all : ∀ p ∈ N9, Valid Tryz.prog p.1 p.2 := vcons v71 (vcons v40 N8_all)
theorem N9_ok : ∀ f S, spL N9 f = some S → Valid Tryz.prog f S := spL_ok N9_all
theorem v57 : Valid Tryz.prog 57 (.tot (tS [pS, pS] [pS, pB] sufF)) := by
  refine tS_ok mixed Tbl_ok N9_ok Tryz.func57 call57 rfl rfl rfl ?_
  rintro ⟨(s : ByteArray), (c : ByteArray)⟩ hr z hz
  refine ⟨noLoop, ?_⟩
  refine Eq.mp (by kernel_rfl : (((!sufB s c) = true → Value.string s = Value.string z.fst ∧ false = z.snd ∧ True) ∧ ((!sufB s c) = false → ((-9223372036854775808 : Int) ≤ (↑s.size : Int) - (↑c.size : Int) ∧ (↑s.size : Int) - (↑c.size : Int) ≤ (9223372036854775807 : Int)) ∧ ((0 : Int) ≤ (↑s.size : Int) - (↑c.size : Int) ∧ (↑s.size : Int) - (↑c.size : Int) ≤ (↑s.size : Int)) ∧ Value.string (s.extract (0 : Nat) ((0 : Nat) + ((↑s.size : Int) - (↑c.size : Int)).toNat)) = Value.string z.fst ∧ true = z.snd ∧ True)) = _) ?_
  have hz : sufF (s, c) = z := hz
  subst hz
  have hs : s.size ≤ maxLen := hr.1
  have hmx : (maxLen : Int) ≤ 9223372036854775807 := by decide
  refine ⟨fun h => ?_, fun h => ?_⟩
  · have h : sufB s c = false := by simpa using h
    have e : sufF (s, c) = (s, false) := by rw [sufF]; dsimp only; rw [h]
    rw [e]; exact ⟨rfl, rfl, trivial⟩
  · have h : sufB s c = true := by simpa using h
    have e : sufF (s, c) = (s.extract 0 (s.size - c.size), true) := by rw [sufF]; dsimp only; rw [h]
    have hc : c.size ≤ s.size := by
      rw [sufB, Bool.and_eq_true, decide_eq_true_eq] at h; exact h.1
    rw [e]
    refine ⟨by omega, by omega, ?_, rfl, trivial⟩
    rw [show 0 + ((s.size : Int) - (c.size : Int)).toNat = s.size - c.size by omega]
abbrev N10 : List (Nat × Spec) := (57, .tot (tS [pS, pS] [pS, pB] sufF)) :: N9
theorem N10_all : ∀ p ∈ N10, Valid Tryz.prog p.1 p.2 := vcons v57 N9_all
theorem N10_ok : ∀ f S, spL N10 f = some S → Valid Tryz.prog f S := spL_ok N10_all
theorem v37 : Valid Tryz.prog 37 (.tot (tS [pS, pS] [pS, pB] sufF)) := by
  refine tS_ok mixed Tbl_ok N10_ok Tryz.func37 call37 rfl rfl rfl ?_
  rintro ⟨(s : ByteArray), (c : ByteArray)⟩ hr z hz
  refine ⟨noLoop, ?_⟩
  refine Eq.mp (by kernel_rfl : (Value.string (sufF (s, c)).fst = Value.string z.fst ∧ (sufF (s, c)).snd = z.snd ∧ True) = _) ?_
  have hz : sufF (s, c) = z := hz
  subst hz
  exact ⟨rfl, rfl, trivial⟩
/-- Where a word stands. -/
def idxI (w : ByteArray) : List ByteArray → Int
  | [] => -1
  | x :: r => if x = w then 0 else (if idxI w r < 0 then -1 else idxI w r + 1)
theorem idxI_none {w : ByteArray} : ∀ {l : List ByteArray}, (∀ j : Nat, l[j]? ≠ some w) → idxI w l = -1
  | [], _ => rfl
  | x :: r, h => by
    have h0 : x ≠ w := fun e => h 0 (by rw [e]; rfl)
    rw [idxI, if_neg h0, idxI_none (l := r) fun j => h (j + 1)]; rfl
theorem idxI_at {w : ByteArray} : ∀ {l : List ByteArray} {k : Nat}, l[k]? = some w → (∀ j : Nat, j < k → l[j]? ≠ some w) → idxI w l = k
  | [], k, h, _ => by simp at h
  | x :: r, 0, h, _ => by
    obtain rfl : x = w := by simpa using h
    rw [idxI, if_pos rfl]; rfl
  | x :: r, k + 1, h, hn => by
    have h0 : x ≠ w := fun e => hn 0 (by omega) (by rw [e]; rfl)
    have ih := idxI_at (l := r) (k := k) (by simpa using h) fun j hj => by have := hn (j + 1) (by omega); simpa using this
    rw [idxI, if_neg h0, ih, if_neg (by omega)]; rfl
abbrev lp58 (l : List ByteArray) (w : ByteArray) : Nat → Option LoopSp := fun _ => some { X := Nat, sl := fun k => [(0, .one (.rd .str l)), (1, .one (.val (.string w))), (7, .one (vi l.length)), (8, .one (vi k))], h := fun _ => [], nx := 0, inv := fun k => k ≤ l.length ∧ ∀ j, j < k → l[j]? ≠ some w, mu := fun k => l.length - k }
theorem c58 : CallOk Tryz.prog 58 := ⟨_, Tryz.func58, by kernel_rfl, by kernel_rfl⟩
theorem v58 : Valid Tryz.prog 58 (.tot (tS [pSs, pS] [pI] fun x => idxI x.2 x.1)) := by
  refine tS_ok mixed Tbl_ok N10_ok Tryz.func58 c58 rfl rfl rfl ?_
  rintro ⟨(l : List ByteArray), (w : ByteArray)⟩ hr z hz
  refine ⟨lp58 l w, ?_⟩
  refine Eq.mp (by kernel_rfl : ((∃ (x : Nat), (x ≤ l.length ∧ ∀ (j : Nat), j < x → l[j]? ≠ some w) ∧ l ≍ l ∧ Value.string w = Value.string w ∧ (↑l.length : Int) = (↑l.length : Int) ∧ (0 : Int) = (↑x : Int) ∧ True) ∧ ∀ (x : Nat), (x ≤ l.length ∧ ∀ (j : Nat), j < x → l[j]? ≠ some w) → (decide ((↑x : Int) < (↑l.length : Int)) = true → ((0 : Int) ≤ (↑x : Int) ∧ (↑x : Int) < (↑l.length : Int)) ∧ ∀ (y : ByteArray), l[(↑x : Int).toNat]? = some y → ((w.toList == y.toList) = true → (↑x : Int) = z ∧ True) ∧ ((w.toList == y.toList) = false → ((-9223372036854775808 : Int) ≤ (↑x : Int) + (1 : Int) ∧ (↑x : Int) + (1 : Int) ≤ (9223372036854775807 : Int)) ∧ ∃ (y : Nat), (y ≤ l.length ∧ ∀ (j : Nat), j < y → l[j]? ≠ some w) ∧ l.length - y < l.length - x ∧ l ≍ l ∧ Value.string w = Value.string w ∧ (↑l.length : Int) = (↑l.length : Int) ∧ (↑x : Int) + (1 : Int) = (↑y : Int) ∧ True)) ∧ (decide ((↑x : Int) < (↑l.length : Int)) = false → (-1 : Int) = z ∧ True)) = _) ?_
  have hz : idxI w l = z := hz
  subst hz
  have hm : l.length ≤ maxLen := hr.1.1
  have hmx : (maxLen : Int) ≤ 9223372036854775807 := by decide
  refine ⟨⟨0, ⟨Nat.zero_le _, fun j h => by omega⟩, HEq.rfl, rfl, rfl, rfl, trivial⟩, fun x h => ⟨fun h1 => ⟨by simp only [decide_eq_true_eq] at h1; omega, fun y hy => ⟨fun h2 => ⟨?_, trivial⟩, fun h2 => ⟨by simp only [decide_eq_true_eq] at h1; omega, x + 1, ⟨by simp only [decide_eq_true_eq] at h1; omega, fun j hj => ?_⟩, by simp only [decide_eq_true_eq] at h1; omega, HEq.rfl, rfl, rfl, by simp, trivial⟩⟩⟩, fun h1 => ⟨?_, trivial⟩⟩⟩
  · have := bytes_eq.1 h2
    subst this
    rw [Int.toNat_natCast] at hy
    exact (idxI_at hy h.2).symm
  · rw [Int.toNat_natCast] at hy
    rcases Nat.lt_or_ge j x with h3 | h3
    · exact h.2 j h3
    · have : j = x := by omega
      subst this
      rw [hy]
      intro e
      cases e
      rw [bytes_eq.2 rfl] at h2
      cases h2
  · refine (idxI_none fun j => ?_).symm
    rcases Nat.lt_or_ge j l.length with h3 | h3
    · exact h.2 j (by simp only [decide_eq_false_iff_not] at h1; omega)
    · rw [List.getElem?_eq_none h3]; simp
abbrev N11 : List (Nat × Spec) := (37, .tot (tS [pS, pS] [pS, pB] sufF)) :: (58, .tot (tS [pSs, pS] [pI] fun x => idxI x.2 x.1)) :: N10
theorem N11_all : ∀ p ∈ N11, Valid Tryz.prog p.1 p.2 := vcons v37 (vcons v58 N10_all)
theorem N11_ok : ∀ f S, spL N11 f = some S → Valid Tryz.prog f S := spL_ok N11_all
end Go.Proofs.YtnbbooilapelmaaGreatDoor.V

/-
  Contracts of the library's functions, for the symbolic run.
-/
namespace Go.Proofs.YtnbbooilapelmaaGreatDoor.V
open Go.RowKit Go.Proofs.YtnbbooilapelmaaGreatDoor
set_option linter.unusedSimpArgs false
section
variable {F : Nat → Prop} {w : World}
theorem tab_of (h : GlOk F w) : Lib.TabIs Tryz.prog w "internal/strconv.uint64pow10" .u64 Lib.pow10Tab := by
  obtain ⟨_, _, _, ty, fz, h4⟩ := h.nums 0 20 .u64 _ rfl
  have hg : Tryz.prog.globalNamed "internal/strconv.uint64pow10" = some 0 := by kernel_rfl
  unfold Lib.TabIs World.var?
  rw [hg, Option.bind_some]
  simp only [h4]
  congr 1
theorem err_of {g : Nat} {n : String} (hm : ∀ p ∈ Gl, p.1 = g → p.2 = fun cs _ => ∃ tp p, cs = #[.iface tp p]) (hi : ∃ p ∈ Gl, p.1 = g) (hg : Tryz.prog.globalNamed n = some g) (h : GlOk F w) : ∃ tp p, w.var? Tryz.prog n = some #[.iface tp p] := by
  obtain ⟨p, hp, rfl⟩ := hi
  obtain ⟨_, cs, ty, fz, h2, h3⟩ := h.some_ p hp
  rw [hm p hp rfl] at h3
  obtain ⟨tp, q, rfl⟩ := h3
  refine ⟨tp, q, ?_⟩
  unfold World.var?
  rw [hg, Option.bind_some]
  simp only [h2]
theorem err5 (h : GlOk F w) : ∃ tp p, w.var? Tryz.prog "strconv.ErrSyntax" = some #[.iface tp p] :=
  err_of (g := 4) (by intro p hp e; simp only [Gl, List.mem_cons, List.not_mem_nil, or_false] at hp; rcases hp with rfl | rfl <;> rfl) ⟨_, List.mem_cons_self, rfl⟩ (by kernel_rfl) h
theorem err6 (h : GlOk F w) : ∃ tp p, w.var? Tryz.prog "strconv.ErrRange" = some #[.iface tp p] :=
  err_of (g := 5) (by intro p hp e; simp only [Gl, List.mem_cons, List.not_mem_nil, or_false] at hp; rcases hp with rfl | rfl <;> rfl) ⟨_, List.mem_cons_of_mem _ List.mem_cons_self, rfl⟩ (by kernel_rfl) h
end
theorem below_grow (w : World) (k : Nat) (os : Array Obj) : Below w.heap.size w (Sort.grow (w.drewN k) os) := Lib.below_grow _ w (Nat.le_refl _) k os
/-- strconv.Itoa. -/
def itoaS (args : List Vl) : Option Rs := match args with
  | [.one c] => (match intV c with | some (.i64, n) => some (.v (.one (.val (.string (decB n))))) | _ => none)
  | _ => none
theorem v29 : Valid Tryz.prog 29 (.tot itoaS) := by
  refine ⟨call29, fun args r hS β F w vs hF hd => ?_⟩
  unfold itoaS at hS
  split at hS
  case h_2 => cases hS
  rename_i c
  split at hS
  case h_2 => cases hS
  rename_i n hn
  cases hS
  obtain ⟨u, r, rfl, h1, h2⟩ := hd
  obtain rfl : r = [] := h2
  obtain ⟨rfl, h0, h1⟩ := intV_dn hn h1
  refine ⟨.string (decB n), ⟨rfl, decB_max h0 h1⟩, fun w' hk hs => ?_⟩
  refine (Tryz.strconv_Itoa n h0 h1 w' (tab_of (hF.gl.ext (fun _ h => h) hk))).mono ?_
  rintro e w2 ⟨rfl, k, os, rfl⟩
  exact ⟨rfl, below_grow _ _ _⟩
/-- strconv.FormatInt(.., 10). -/
def fiS (args : List Vl) : Option Rs := match args with
  | [.one c, .one d] => (match intV c, intV d with | some (.i64, n), some (.i64, 10) => some (.v (.one (.val (.string (decB n))))) | _, _ => none)
  | _ => none
theorem v30 : Valid Tryz.prog 30 (.tot fiS) := by
  refine ⟨call30, fun args r hS β F w vs hF hd => ?_⟩
  unfold fiS at hS
  split at hS
  case h_2 => cases hS
  rename_i c d
  split at hS
  case h_2 => cases hS
  rename_i n hn hd10
  cases hS
  obtain ⟨u, r, rfl, h1, u2, r2, rfl, h2, h3⟩ := hd
  obtain rfl : r2 = [] := h3
  obtain ⟨rfl, h0, h1⟩ := intV_dn hn h1
  obtain ⟨rfl, _⟩ := intV_dn hd10 h2
  refine ⟨.string (decB n), ⟨rfl, decB_max h0 h1⟩, fun w' hk hs => ?_⟩
  refine (Tryz.strconv_FormatInt_10 n h0 h1 w' (tab_of (hF.gl.ext (fun _ h => h) hk))).mono ?_
  rintro e w2 ⟨rfl, k, os, rfl⟩
  exact ⟨rfl, below_grow _ _ _⟩
/-- strings.Join. -/
def joinB (l : List ByteArray) (sep : ByteArray) : ByteArray := ⟨(Lib.join (l.map (·.data.toList)) sep.data.toList).toArray⟩
def joinS (args : List Vl) (K : Rs → Prop) : Prop := match args with
  | [.one (.rd .str l), .one (.val (.string sep))] => (joinB l sep).size ≤ 1000000 ∧ l.length ≤ 1000000 ∧ K (.v (.one (.val (.string (joinB l sep)))))
  | _ => False
theorem v31 : Valid Tryz.prog 31 (.pre joinS) := by
  refine ⟨call31, fun args K hS β F w vs hF hd => ?_⟩
  unfold joinS at hS
  split at hS
  case h_2 => exact hS.elim
  rename_i l sep
  obtain ⟨hsz, hll, hK⟩ := hS
  have hsm : (joinB l sep).size ≤ maxLen := Nat.le_trans hsz (by decide)
  obtain ⟨u, r, rfl, h1, u2, r2, rfl, ⟨rfl, h2⟩, h3⟩ := hd
  obtain rfl : r2 = [] := h3
  obtain ⟨ad, cap, e, c1, c2, c3, c4⟩ := h1
  cases e
  have hln : (Lib.join (l.map (·.data.toList)) sep.data.toList).length ≤ 140737488355328 := by
    have e : (joinB l sep).size = (Lib.join (l.map (·.data.toList)) sep.data.toList).length := by show Array.size _ = _; simp
    rw [← e]
    exact Nat.le_trans hsz (by decide)
  cases l with
  | nil =>
    refine (Tryz.strings_Join_none ad cap sep w).mono ?_
    rintro e w2 ⟨rfl, rfl⟩
    exact ⟨_, _, F, rfl, hK, Below.refl _ _, fun _ h => h, fun _ h => .inl h, rfl, hsm⟩
  | cons x l =>
    obtain ⟨g, o, rfl, hg, hc⟩ := c4 (by simp)
    refine (Tryz.strings_Join g o cap (x :: l) sep w (fun j y hy => ?_) (hF.lt g hg) (Nat.le_trans hll (by decide)) c1 hln).mono ?_
    · obtain ⟨cs, ⟨rfl, _⟩, hcs⟩ := hc j y hy
      have := hcs 0 _ rfl
      simpa [Sh.size] using this
    · rintro e w2 ⟨rfl, hb⟩
      exact ⟨_, _, F, rfl, hK, hb, fun _ h => h, fun _ h => .inl h, rfl, hsm⟩
/-- console.number. -/
def numS (args : List Vl) (K : Rs → Prop) : Prop := match args with
  | [.one (.val (.string w))] => w.size ≤ 1000000 ∧ K (.tup [.one (.val (.int .i64 (numB w).1)), .one (.val (.bool (numB w).2))])
  | _ => False
theorem number_walk (s : ByteArray) (hs : s.size ≤ 1000000) (w : World) (htab : ∀ w', Below w.heap.size w w' → Lib.TabIs Tryz.prog w' "internal/strconv.uint64pow10" .u64 Lib.pow10Tab) (h5 : ∃ tp p, w.var? Tryz.prog "strconv.ErrSyntax" = some #[.iface tp p]) (h6 : ∃ tp p, w.var? Tryz.prog "strconv.ErrRange" = some #[.iface tp p]) :
    Calls Tryz.prog 60 #[.string s] w fun e w' => e = .returned (.tuple #[.int .i64 (numB s).1, .bool (numB s).2]) ∧ Below w.heap.size w w' := by
  have hm : s.size ≤ 281474976710656 := Nat.le_trans hs (by decide)
  have e72 : ∀ args w, (callFunc 72 args).run Tryz.prog w = .ok (.enter 72 args) w := enters_of Tryz.func72 (by kernel_rfl) rfl
  have e30 : ∀ args w, (callFunc 30 args).run Tryz.prog w = .ok (.enter 30 args) w := enters_of Tryz.func30 (by kernel_rfl) rfl
  cases hp : Lib.parseIntB 64 s.data.toList with
  | ok v =>
    have hb := Lib.parseIntB_bounds hp
    have e2 : numB s = (v, (decB v).data.toList == s.data.toList) := by rw [numB, hp]
    rw [e2]
    go_enter Tryz.func60, Tryz.ntmps60
    go_wp2_with (go_at_fn 72; refine (Tryz.strconv_ParseInt_10_at64_ok s (by omega) v hp _).mono ?_; rintro e w' ⟨rfl, hw⟩)
    have hb2 : Below w.heap.size w w' := by
      rcases hw with rfl | ⟨t, rfl⟩
      · exact Below.refl _ _
      · exact Lib.bytesWorld_below _ _ _
    go_wp2_with (go_at_fn 30; refine (Tryz.strconv_FormatInt_10 v (by omega) (by omega) _ (htab _ hb2)).mono ?_; rintro e w2 ⟨rfl, k, os, rfl⟩)
    go_ret2
    refine ⟨?_, hb2.trans ((below_grow w' k os).mono hb2.size)⟩
    rw [decB_list, ← toList_data]
    rfl
  | range =>
    have e2 : numB s = (Lib.intSat 64 s.data.toList, false) := by rw [numB, hp]
    rw [e2]
    obtain ⟨tp, p, h6⟩ := h6
    go_enter Tryz.func60, Tryz.ntmps60
    go_wp2_with (go_at_fn 72; refine (Tryz.strconv_ParseInt_10_at64_range_var s hm hp tp p _ h6).mono ?_; rintro e w' ⟨N, rfl, hN, hc, hb⟩)
    go_wp2
    go_ret2
    exact ⟨rfl, hb⟩
  | _ =>
    have e2 : numB s = (0, false) := by rw [numB, hp]
    rw [e2]
    obtain ⟨tp, p, h5⟩ := h5
    go_enter Tryz.func60, Tryz.ntmps60
    go_wp2_with (go_at_fn 72; refine (Tryz.strconv_ParseInt_10_at64_syntax_var s hm hp tp p _ h5).mono ?_; rintro e w' ⟨N, rfl, hN, hc, hb⟩)
    go_wp2
    go_ret2
    exact ⟨rfl, hb⟩
theorem v60 : Valid Tryz.prog 60 (.pre numS) := by
  refine ⟨call60, fun args K hS β F w vs hF hd => ?_⟩
  unfold numS at hS
  split at hS
  case h_2 => exact hS.elim
  rename_i s
  obtain ⟨hsz, hK⟩ := hS
  obtain ⟨u, r, rfl, ⟨rfl, h1⟩, h2⟩ := hd
  obtain rfl : r = [] := h2
  have gl : ∀ w', Below w.heap.size w w' → GlOk F w' := fun w' hb => hF.gl.ext (fun _ h => h) (fun k hk => hb.block k (hF.lt k hk))
  refine (number_walk s hsz w (fun w' hb => tab_of (gl w' hb)) (err5 hF.gl) (err6 hF.gl)).mono ?_
  rintro e w2 ⟨rfl, hb⟩
  have hn := numB_bd s
  exact ⟨_, _, F, rfl, hK, hb, fun _ h => h, fun _ h => .inl h, [_, _], rfl, _, _, rfl, ⟨rfl, hn⟩, _, _, rfl, ⟨rfl, trivial⟩, rfl⟩
abbrev N12 : List (Nat × Spec) := (29, .tot itoaS) :: (30, .tot fiS) :: (31, .pre joinS) :: (60, .pre numS) :: N11
theorem N12_all : ∀ p ∈ N12, Valid Tryz.prog p.1 p.2 := vcons v29 (vcons v30 (vcons v31 (vcons v60 N11_all)))
theorem N12_ok : ∀ f S, spL N12 f = some S → Valid Tryz.prog f S := spL_ok N12_all
end Go.Proofs.YtnbbooilapelmaaGreatDoor.V

namespace Go.Proofs.YtnbbooilapelmaaGreatDoor.V
open Go.RowKit Go.Proofs.YtnbbooilapelmaaGreatDoor
set_option linter.unusedSimpArgs false
def sepB (l : List ByteArray) : ByteArray := mkW ((l.map fun w => w.data.toList ++ [32]).flatten)
theorem app_list (a b : ByteArray) : (a ++ b).data.toList = a.data.toList ++ b.data.toList := by simp
theorem sepB_list (l : List ByteArray) : (sepB l).data.toList = (l.map fun w => w.data.toList ++ [32]).flatten := mkW_list _
theorem joinB_list (l : List ByteArray) (s : ByteArray) : (joinB l s).data.toList = Lib.join (l.map (·.data.toList)) s.data.toList := by simp [joinB]
theorem join_cons2 (a b : List UInt8) (r : List (List UInt8)) (s : List UInt8) : Lib.join (a :: b :: r) s = a ++ s ++ Lib.join (b :: r) s := by
  rw [Lib.join_cons, Lib.join_cons, Lib.joinTail, List.map_cons, List.flatten_cons]
  simp [Lib.joinTail]
theorem join_sep (x : ByteArray) : ∀ l : List ByteArray, joinB (l ++ [x]) sp = sepB l ++ x
  | [] => by
    apply ba_ext
    rw [joinB_list, app_list, sepB_list]
    simp [Lib.join_one]
  | a :: l => by
    have ih := join_sep x l
    apply ba_ext
    have ih := congrArg (fun s => s.data.toList) ih
    simp only [joinB_list, app_list, sepB_list] at ih ⊢
    cases l with
    | nil =>
      simp only [List.nil_append, List.cons_append, List.map_cons, List.map_nil] at ih ⊢
      rw [join_cons2, ih]
      simp [sp]
    | cons b l =>
      simp only [List.cons_append, List.map_cons, List.map_append, List.map_nil, List.flatten_cons] at ih ⊢
      rw [join_cons2, ih]
      simp [sp]
theorem sepB_app (l m : List ByteArray) : sepB (l ++ m) = sepB l ++ sepB m := by
  apply ba_ext
  rw [app_list, sepB_list, sepB_list, sepB_list]
  simp
theorem sepB_one (w : ByteArray) : sepB [w] = w ++ sp := by
  apply ba_ext
  rw [app_list, sepB_list]
  simp [sp]
theorem app_assoc (a b c : ByteArray) : a ++ b ++ c = a ++ (b ++ c) := by
  apply ba_ext
  simp only [app_list, List.append_assoc]
theorem join1 (x : ByteArray) : joinB [x] sp = x := by
  apply ba_ext
  rw [joinB_list]; simp [Lib.join_one]
theorem join2 (x y : ByteArray) : joinB [x, y] sp = x ++ (sp ++ y) := by
  apply ba_ext
  simp only [joinB_list, app_list, List.map_cons, List.map_nil, join_cons2, Lib.join_one, List.append_assoc]
theorem join3 (x y z : ByteArray) : joinB [x, y, z] sp = x ++ (sp ++ y) ++ (sp ++ z) := by
  apply ba_ext
  simp only [joinB_list, app_list, List.map_cons, List.map_nil, join_cons2, Lib.join_one, List.append_assoc]
theorem ba_size (s : ByteArray) : s.size = s.data.toList.length := (size_list s).symm
theorem join_more (a b : ByteArray) (r : List ByteArray) : joinB (a :: b :: r) sp = a ++ (sp ++ joinB (b :: r) sp) := by
  apply ba_ext
  simp only [joinB_list, app_list, List.map_cons, join_cons2, List.append_assoc]
theorem jsize {B : Nat} : ∀ L : List ByteArray, (∀ w ∈ L, ByteArray.size w ≤ B) → (joinB L sp).size ≤ (B + 1) * L.length
  | [], _ => Nat.zero_le _
  | [a], h => by have := h a (by simp); rw [join1]; simp; omega
  | a :: b :: r, h => by
    have h1 := h a (by simp)
    have ih := jsize (b :: r) (fun w hw => h w (by simp [hw]))
    rw [join_more, ByteArray.size_append, ByteArray.size_append]
    have : sp.size = 1 := rfl
    simp only [List.length_cons, Nat.mul_add, Nat.mul_one] at ih ⊢
    omega
theorem sepsize {B : Nat} : ∀ L : List ByteArray, (∀ w ∈ L, ByteArray.size w ≤ B) → (sepB L).size ≤ (B + 1) * L.length
  | [], _ => Nat.zero_le _
  | a :: r, h => by
    have h1 := h a (by simp)
    have ih := sepsize r (fun w hw => h w (by simp [hw]))
    rw [show a :: r = [a] ++ r from rfl, sepB_app, ByteArray.size_append, sepB_one, ByteArray.size_append]
    have : sp.size = 1 := rfl
    simp only [List.length_append, List.length_cons, List.length_nil, Nat.mul_add, Nat.mul_one] at ih ⊢
    omega
theorem cutL_app : ∀ (a b : List UInt8), cutL (a ++ 32 :: b) = cutL a ++ cutL b
  | [], b => by simp [cutL]
  | c :: a, b => by
    have ih := cutL_app a b
    rw [List.cons_append, cutL, cutL, ih]
    split
    · rw [List.cons_append]
    · cases h : cutL a with
      | nil => exact absurd h (cutL_ne a)
      | cons w l => rfl
theorem wd_app (s y : ByteArray) : wd (s ++ (sp ++ y)) = wd s ++ wd y := by
  rw [wd, app_list, app_list, show sp.data.toList ++ y.data.toList = 32 :: y.data.toList from rfl, cutL_app, List.map_append]; rfl
def noSp (w : ByteArray) : Prop := 32 ∉ w.data.toList
theorem wd_one {w : ByteArray} (h : noSp w) : wd w = [w] := by
  rw [wd, cutL_none h, List.map_cons, mkW_data]; rfl
theorem wd_join : ∀ l : List ByteArray, l ≠ [] → (∀ w ∈ l, noSp w) → wd (joinB l sp) = l
  | [], h, _ => absurd rfl h
  | [w], _, h => by rw [join1, wd_one (h w (by simp))]
  | a :: b :: r, _, h => by
    rw [join_more, wd_app, wd_one (h a (by simp)), wd_join (b :: r) (by simp) (fun w hw => h w (by simp [hw]))]; rfl
theorem join_cut : ∀ L : List UInt8, Lib.join (cutL L) [32] = L
  | [] => by rw [cutL, Lib.join_one]
  | c :: L => by
    have ih := join_cut L
    rw [cutL]
    split
    · rename_i hc
      cases h : cutL L with
      | nil => exact absurd h (cutL_ne L)
      | cons w l => rw [h] at ih; rw [join_cons2, ih, hc]; rfl
    · cases h : cutL L with
      | nil => exact absurd h (cutL_ne L)
      | cons w l =>
        rw [h] at ih
        cases l with
        | nil => rw [Lib.join_one] at ih ⊢; rw [ih]
        | cons x l => rw [join_cons2] at ih ⊢; rw [← ih]; rfl
theorem join_wd (s : ByteArray) : joinB (wd s) sp = s := by
  apply ba_ext
  rw [joinB_list, wd, List.map_map]
  have : ((fun x : ByteArray => x.data.toList) ∘ mkW) = id := by funext l; exact mkW_list l
  rw [this, List.map_id]
  exact join_cut _
theorem dec_noSp (n : Int) : noSp (decB n) := by
  intro h
  rw [decB_list, Lib.itoa] at h
  split at h
  · rcases List.mem_cons.1 h with h | h
    · exact absurd h (by decide)
    · have := digs_all _ _ h; exact absurd this (by decide)
  · have := digs_all _ _ h; exact absurd this (by decide)

theorem join_snoc (x : ByteArray) : ∀ {l : List ByteArray}, l ≠ [] → joinB (l ++ [x]) sp = joinB l sp ++ (sp ++ x)
  | [], h => absurd rfl h
  | [a], _ => by
    show joinB [a, x] sp = joinB [a] sp ++ (sp ++ x)
    rw [join2, join1]
  | a :: b :: l, _ => by
    have ih := join_snoc x (l := b :: l) (by simp)
    show joinB (a :: b :: (l ++ [x])) sp = _
    rw [join_more, show b :: (l ++ [x]) = (b :: l) ++ [x] from rfl, ih, join_more]
    simp only [app_assoc]
def hasC : List ByteArray := [⟨#[]⟩, ⟨#[65, 73]⟩, ⟨#[65, 66, 67]⟩, ⟨#[65, 66, 73]⟩, ⟨#[66, 73]⟩, ⟨#[73]⟩, ⟨#[65]⟩]
theorem has_is (op : Int) : hasS op ∈ hasC := by
  unfold hasS
  split
  · unfold tabS
    split
    · exact List.mem_of_getElem? (i := 4) rfl
    · split
      · exact List.mem_of_getElem? (i := 3) rfl
      · split
        · exact List.mem_of_getElem? (i := 2) rfl
        · split
          · unfold mvS
            split
            · exact List.mem_of_getElem? (i := 1) rfl
            · split
              · exact List.mem_of_getElem? (i := 5) rfl
              · exact List.mem_of_getElem? (i := 6) rfl
          · exact List.mem_of_getElem? (i := 0) rfl
  · exact List.mem_of_getElem? (i := 0) rfl
theorem has_byte {op : Int} {c : UInt8} (h : c ∈ (hasS op).data.toList) : c = 65 ∨ c = 66 ∨ c = 67 ∨ c = 73 := by
  have key : ∀ s ∈ hasC, ∀ c ∈ (ByteArray.data s).toList, c = 65 ∨ c = 66 ∨ c = 67 ∨ c = 73 := by decide
  exact key _ (has_is op) c h
def rB : ByteArray := ⟨#[114]⟩
/-- A field's word. -/
def fldW (i : IN) (c : UInt8) : ByteArray := if c = 65 then rB ++ decB i.2.1 else if c = 66 then rB ++ decB i.2.2.1 else if c = 67 then rB ++ decB i.2.2.2.1 else decB i.2.2.2.2
def insWs (i : IN) (k : Nat) : List ByteArray := nmF i.1 :: ((hasS i.1).data.toList.take k).map (fldW i)
def lineWs (i : IN) : List ByteArray := nmF i.1 :: (hasS i.1).data.toList.map (fldW i)
def lineF (i : IN) : ByteArray × Int := match goodF i with | true => (joinB (lineWs i) sp, 0) | false => (⟨#[]⟩, 11)
theorem lineF_t {i : IN} (h : goodF i = true) : lineF i = (joinB (lineWs i) sp, 0) := by simp [lineF, h]
theorem lineF_f {i : IN} (h : goodF i = false) : lineF i = (⟨#[]⟩, 11) := by simp [lineF, h]
theorem insWs_end {i : IN} {k : Nat} (h : (hasS i.1).size ≤ k) : insWs i k = lineWs i := by
  rw [insWs, lineWs, List.take_of_length_le (by rw [size_list]; exact h)]
theorem insWs_step {i : IN} {k : Nat} {c : UInt8} (h : (hasS i.1).data.toList[k]? = some c) : insWs i (k + 1) = insWs i k ++ [fldW i c] := by
  rw [insWs, insWs, map_take h]; rfl
theorem nmF_size (k : Int) : (nmF k).size ≤ 6 := by
  have : ∀ w ∈ nmL, ByteArray.size w ≤ 6 := by decide
  unfold nmF
  split
  · rw [List.getD_eq_getElem?_getD]
    cases h : nmL[k.toNat]? with
    | none => decide
    | some w => exact this w (List.mem_of_getElem? h)
  · decide
abbrev i64R (n : Int) : Prop := -9223372036854775808 ≤ n ∧ n ≤ 9223372036854775807
theorem fldW_size {i : IN} (ha : i64R i.2.1) (hb : i64R i.2.2.1) (hc : i64R i.2.2.2.1) (hm : i64R i.2.2.2.2) (c : UInt8) : (fldW i c).size ≤ 22 := by
  have hr : rB.size = 1 := rfl
  have := decB_size ha.1 ha.2
  have := decB_size hb.1 hb.2
  have := decB_size hc.1 hc.2
  have := decB_size hm.1 hm.2
  unfold fldW
  split
  · rw [ByteArray.size_append]; omega
  · split
    · rw [ByteArray.size_append]; omega
    · split
      · rw [ByteArray.size_append]; omega
      · omega
theorem insWs_size {i : IN} (ha : i64R i.2.1) (hb : i64R i.2.2.1) (hc : i64R i.2.2.2.1) (hm : i64R i.2.2.2.2) (k : Nat) : ∀ w ∈ insWs i k, ByteArray.size w ≤ 22 := by
  intro w hw
  rcases List.mem_cons.1 hw with rfl | hw
  · exact Nat.le_trans (nmF_size _) (by decide)
  · obtain ⟨c, _, rfl⟩ := List.mem_map.1 hw
    exact fldW_size ha hb hc hm c
theorem insWs_len (i : IN) (k : Nat) : (insWs i k).length ≤ 4 := by
  have := has_size i.1
  rw [insWs, List.length_cons, List.length_map, List.length_take, size_list]; omega
abbrev lp15 (op a b c m : Int) : Nat → Option LoopSp := fun _ => some { X := Nat, sl := fun k => [(1, .one (.ptr 0 0)), (4, .one (.sl 1)), (17, .one (.ptr 2 0))], h := fun k => [(0, .blk [vi op, vi a, vi b, vi c, vi m] 40), (1, .own 9 .str (insWs (op, a, b, c, m) k)), (2, .it (hasS op) k)], nx := 3, inv := fun k => k ≤ (hasS op).size, mu := fun k => (hasS op).size - k }
theorem has_at {op : Int} {x : Nat} (h : x < (hasS op).size) : ∃ c : UInt8, (hasS op).data.toList[x]? = some c ∧ (c = 65 ∨ c = 66 ∨ c = 67 ∨ c = 73) ∧ Utf8.decode (hasS op) x = (c.toNat, 1) := by
  have hl : x < (hasS op).data.toList.length := by rw [size_list]; exact h
  have hg : (hasS op).data.toList[x]? = some ((hasS op).data.toList[x]) := List.getElem?_eq_getElem hl
  have hb := has_byte (List.mem_of_getElem? hg)
  refine ⟨_, hg, hb, ?_⟩
  have e : (hasS op)[x]'h = (hasS op).data.toList[x] := rfl
  have hlt : ((hasS op)[x]'h).toNat < 128 := by rw [e]; rcases hb with h | h | h | h <;> rw [h] <;> decide
  rw [decode_ascii _ _ h hlt]; rfl
theorem v15 : Valid Tryz.prog 15 (.pre (gS [pN] [pS, pI] lineF)) := by
  refine gS_ok mixed Tbl_ok N12_ok Tryz.func15 call15 rfl ?_
  rintro ⟨(op : Int), (a : Int), (b : Int), (c : Int), (m : Int)⟩ hr y hy
  refine ⟨lp15 op a b c m, ?_⟩
  refine Eq.mp (by kernel_rfl : (((!goodF (op, a, b, c, m)) = true → Value.string (ByteArray.mk ([] : List UInt8).toArray) = Value.string y.fst ∧ (11 : Int) = y.snd ∧ True) ∧ ((!goodF (op, a, b, c, m)) = false → (∃ (x : Nat), x ≤ (hasS op).size ∧ op = op ∧ a = a ∧ b = b ∧ c = c ∧ m = m ∧ nmF op :: ([] : List ByteArray) ≍ insWs (op, a, b, c, m) x ∧ hasS op = hasS op ∧ (0 : Nat) = x ∧ True) ∧ ∀ (x : Nat), x ≤ (hasS op).size → (x < (hasS op).size → (((↑(Utf8.decode (hasS op) x).fst : Int) == (65 : Int)) = true → (ByteArray.mk ((114 : UInt8) :: ([] : List UInt8)).toArray).size + (decB a).size ≤ maxLen ∧ ((insWs (op, a, b, c, m) x).length + ((ByteArray.mk ((114 : UInt8) :: ([] : List UInt8)).toArray ++ decB a) :: ([] : List ByteArray)).length) * (16 : Nat) ≤ (140737488355328 : Nat) ∧ ∃ (y : Nat), y ≤ (hasS op).size ∧ (hasS op).size - y < (hasS op).size - x ∧ op = op ∧ a = a ∧ b = b ∧ c = c ∧ m = m ∧ insWs (op, a, b, c, m) x ++ (ByteArray.mk ((114 : UInt8) :: ([] : List UInt8)).toArray ++ decB a) :: ([] : List ByteArray) ≍ insWs (op, a, b, c, m) y ∧ hasS op = hasS op ∧ x + (Utf8.decode (hasS op) x).snd = y ∧ True) ∧ (((↑(Utf8.decode (hasS op) x).fst : Int) == (65 : Int)) = false → (((↑(Utf8.decode (hasS op) x).fst : Int) == (66 : Int)) = true → (ByteArray.mk ((114 : UInt8) :: ([] : List UInt8)).toArray).size + (decB b).size ≤ maxLen ∧ ((insWs (op, a, b, c, m) x).length + ((ByteArray.mk ((114 : UInt8) :: ([] : List UInt8)).toArray ++ decB b) :: ([] : List ByteArray)).length) * (16 : Nat) ≤ (140737488355328 : Nat) ∧ ∃ (y : Nat), y ≤ (hasS op).size ∧ (hasS op).size - y < (hasS op).size - x ∧ op = op ∧ a = a ∧ b = b ∧ c = c ∧ m = m ∧ insWs (op, a, b, c, m) x ++ (ByteArray.mk ((114 : UInt8) :: ([] : List UInt8)).toArray ++ decB b) :: ([] : List ByteArray) ≍ insWs (op, a, b, c, m) y ∧ hasS op = hasS op ∧ x + (Utf8.decode (hasS op) x).snd = y ∧ True) ∧ (((↑(Utf8.decode (hasS op) x).fst : Int) == (66 : Int)) = false → (((↑(Utf8.decode (hasS op) x).fst : Int) == (67 : Int)) = true → (ByteArray.mk ((114 : UInt8) :: ([] : List UInt8)).toArray).size + (decB c).size ≤ maxLen ∧ ((insWs (op, a, b, c, m) x).length + ((ByteArray.mk ((114 : UInt8) :: ([] : List UInt8)).toArray ++ decB c) :: ([] : List ByteArray)).length) * (16 : Nat) ≤ (140737488355328 : Nat) ∧ ∃ (y : Nat), y ≤ (hasS op).size ∧ (hasS op).size - y < (hasS op).size - x ∧ op = op ∧ a = a ∧ b = b ∧ c = c ∧ m = m ∧ insWs (op, a, b, c, m) x ++ (ByteArray.mk ((114 : UInt8) :: ([] : List UInt8)).toArray ++ decB c) :: ([] : List ByteArray) ≍ insWs (op, a, b, c, m) y ∧ hasS op = hasS op ∧ x + (Utf8.decode (hasS op) x).snd = y ∧ True) ∧ (((↑(Utf8.decode (hasS op) x).fst : Int) == (67 : Int)) = false → ((insWs (op, a, b, c, m) x).length + (decB m :: ([] : List ByteArray)).length) * (16 : Nat) ≤ (140737488355328 : Nat) ∧ ∃ (y : Nat), y ≤ (hasS op).size ∧ (hasS op).size - y < (hasS op).size - x ∧ op = op ∧ a = a ∧ b = b ∧ c = c ∧ m = m ∧ insWs (op, a, b, c, m) x ++ decB m :: ([] : List ByteArray) ≍ insWs (op, a, b, c, m) y ∧ hasS op = hasS op ∧ x + (Utf8.decode (hasS op) x).snd = y ∧ True)))) ∧ ((hasS op).size ≤ x → (joinB (insWs (op, a, b, c, m) x) (ByteArray.mk ((32 : UInt8) :: ([] : List UInt8)).toArray)).size ≤ (1000000 : Nat) ∧ (insWs (op, a, b, c, m) x).length ≤ (1000000 : Nat) ∧ Value.string (joinB (insWs (op, a, b, c, m) x) (ByteArray.mk ((32 : UInt8) :: ([] : List UInt8)).toArray)) = Value.string y.fst ∧ (0 : Int) = y.snd ∧ True))) = _) ?_
  have hr : i64R op ∧ i64R a ∧ i64R b ∧ i64R c ∧ i64R m := hr
  obtain ⟨_, ha, hb, hc, hm⟩ := hr
  have hy : lineF (op, a, b, c, m) = y := hy
  subst hy
  refine ⟨fun h => ?_, fun h => ?_⟩
  · rw [lineF_f (by simpa using h)]; exact ⟨rfl, rfl, trivial⟩
  rw [lineF_t (by simpa using h)]
  have hz := has_size op
  have hmx : 1000 ≤ maxLen := by decide
  have sa := decB_size ha.1 ha.2
  have sb := decB_size hb.1 hb.2
  have sc := decB_size hc.1 hc.2
  have h1 : (ByteArray.mk (114 :: ([] : List UInt8)).toArray).size = 1 := rfl
  have hlen := insWs_len (op, a, b, c, m)
  refine ⟨⟨0, Nat.zero_le _, rfl, rfl, rfl, rfl, rfl, HEq.rfl, rfl, rfl, trivial⟩, fun x hx => ⟨fun h => ?_, fun h => ?_⟩⟩
  · obtain ⟨d, hd, hd2, hd3⟩ := has_at h
    have hst := insWs_step (i := (op, a, b, c, m)) hd
    have hl := hlen x
    rw [hd3]
    dsimp only
    have fin : ∀ w : ByteArray, fldW (op, a, b, c, m) d = w → insWs (op, a, b, c, m) x ++ [w] = insWs (op, a, b, c, m) (x + 1) := fun w e => by rw [hst, e]
    refine ⟨fun q => ⟨by omega, by simp only [List.length_singleton]; omega, x + 1, h, by omega, rfl, rfl, rfl, rfl, rfl, heq_of_eq (fin _ ?_), rfl, rfl, trivial⟩, fun q => ⟨fun q2 => ⟨by omega, by simp only [List.length_singleton]; omega, x + 1, h, by omega, rfl, rfl, rfl, rfl, rfl, heq_of_eq (fin _ ?_), rfl, rfl, trivial⟩, fun q2 => ⟨fun q3 => ⟨by omega, by simp only [List.length_singleton]; omega, x + 1, h, by omega, rfl, rfl, rfl, rfl, rfl, heq_of_eq (fin _ ?_), rfl, rfl, trivial⟩, fun q3 => ⟨by simp only [List.length_singleton]; omega, x + 1, h, by omega, rfl, rfl, rfl, rfl, rfl, heq_of_eq (fin _ ?_), rfl, rfl, trivial⟩⟩⟩⟩
    all_goals
      rcases hd2 with rfl | rfl | rfl | rfl
      all_goals first | rfl | exact absurd q (by decide) | exact absurd q2 (by decide) | exact absurd q3 (by decide)
  · rw [insWs_end (i := (op, a, b, c, m)) h]
    have hw : ∀ w ∈ lineWs (op, a, b, c, m), ByteArray.size w ≤ 22 := fun w hw => insWs_size (i := (op, a, b, c, m)) ha hb hc hm x w (by rw [insWs_end (i := (op, a, b, c, m)) h]; exact hw)
    have hll : (lineWs (op, a, b, c, m)).length ≤ 4 := by rw [← insWs_end (i := (op, a, b, c, m)) h]; exact hlen x
    have := jsize _ hw
    refine ⟨?_, by omega, ?_⟩
    · show (joinB (lineWs (op, a, b, c, m)) sp).size ≤ 1000000
      omega
    · exact ⟨rfl, rfl, trivial⟩
abbrev lp16 (op a b c m : Int) : Nat → Option LoopSp := fun _ => some { X := Nat, sl := fun k => [(1, .one (.ptr 0 0)), (4, .one (.val (.string (joinB (insWs (op, a, b, c, m) k) sp)))), (5, .one (.val (.string (hasS op)))), (6, .one (vi k))], h := fun k => [(0, .blk [vi op, vi a, vi b, vi c, vi m] 40)], nx := 1, inv := fun k => k ≤ (hasS op).size, mu := fun k => (hasS op).size - k }
theorem v16 : Valid Tryz.prog 16 (.pre (gS [pN] [pS, pI] lineF)) := by
  refine gS_ok mixed Tbl_ok N12_ok Tryz.func16 call16 rfl ?_
  rintro ⟨(op : Int), (a : Int), (b : Int), (c : Int), (m : Int)⟩ hr y hy
  refine ⟨lp16 op a b c m, ?_⟩
  refine Eq.mp (by kernel_rfl : (((!goodF (op, a, b, c, m)) = true → Value.string (ByteArray.mk ([] : List UInt8).toArray) = Value.string y.fst ∧ (11 : Int) = y.snd ∧ True) ∧ ((!goodF (op, a, b, c, m)) = false → (∃ (x : Nat), x ≤ (hasS op).size ∧ Value.string (nmF op) = Value.string (joinB (insWs (op, a, b, c, m) x) sp) ∧ Value.string (hasS op) = Value.string (hasS op) ∧ (0 : Int) = (↑x : Int) ∧ op = op ∧ a = a ∧ b = b ∧ c = c ∧ m = m ∧ True) ∧ ∀ (x : Nat), x ≤ (hasS op).size → (decide ((↑x : Int) < (↑(hasS op).size : Int)) = true → ((0 : Int) ≤ (↑x : Int) ∧ (↑x : Int) < (↑(hasS op).size : Int)) ∧ ∀ (y : UInt8), (hasS op)[(↑x : Int).toNat]? = some y → (((↑y.toNat : Int) == (65 : Int)) = true → (ByteArray.mk ((32 : UInt8) :: (114 : UInt8) :: ([] : List UInt8)).toArray).size + (decB a).size ≤ maxLen ∧ (joinB (insWs (op, a, b, c, m) x) sp).size + (ByteArray.mk ((32 : UInt8) :: (114 : UInt8) :: ([] : List UInt8)).toArray ++ decB a).size ≤ maxLen ∧ ((-9223372036854775808 : Int) ≤ (↑x : Int) + (1 : Int) ∧ (↑x : Int) + (1 : Int) ≤ (9223372036854775807 : Int)) ∧ ∃ (y : Nat), y ≤ (hasS op).size ∧ (hasS op).size - y < (hasS op).size - x ∧ Value.string (joinB (insWs (op, a, b, c, m) x) sp ++ (ByteArray.mk ((32 : UInt8) :: (114 : UInt8) :: ([] : List UInt8)).toArray ++ decB a)) = Value.string (joinB (insWs (op, a, b, c, m) y) sp) ∧ Value.string (hasS op) = Value.string (hasS op) ∧ (↑x : Int) + (1 : Int) = (↑y : Int) ∧ op = op ∧ a = a ∧ b = b ∧ c = c ∧ m = m ∧ True) ∧ (((↑y.toNat : Int) == (65 : Int)) = false → (((↑y.toNat : Int) == (66 : Int)) = true → (ByteArray.mk ((32 : UInt8) :: (114 : UInt8) :: ([] : List UInt8)).toArray).size + (decB b).size ≤ maxLen ∧ (joinB (insWs (op, a, b, c, m) x) sp).size + (ByteArray.mk ((32 : UInt8) :: (114 : UInt8) :: ([] : List UInt8)).toArray ++ decB b).size ≤ maxLen ∧ ((-9223372036854775808 : Int) ≤ (↑x : Int) + (1 : Int) ∧ (↑x : Int) + (1 : Int) ≤ (9223372036854775807 : Int)) ∧ ∃ (y : Nat), y ≤ (hasS op).size ∧ (hasS op).size - y < (hasS op).size - x ∧ Value.string (joinB (insWs (op, a, b, c, m) x) sp ++ (ByteArray.mk ((32 : UInt8) :: (114 : UInt8) :: ([] : List UInt8)).toArray ++ decB b)) = Value.string (joinB (insWs (op, a, b, c, m) y) sp) ∧ Value.string (hasS op) = Value.string (hasS op) ∧ (↑x : Int) + (1 : Int) = (↑y : Int) ∧ op = op ∧ a = a ∧ b = b ∧ c = c ∧ m = m ∧ True) ∧ (((↑y.toNat : Int) == (66 : Int)) = false → (((↑y.toNat : Int) == (67 : Int)) = true → (ByteArray.mk ((32 : UInt8) :: (114 : UInt8) :: ([] : List UInt8)).toArray).size + (decB c).size ≤ maxLen ∧ (joinB (insWs (op, a, b, c, m) x) sp).size + (ByteArray.mk ((32 : UInt8) :: (114 : UInt8) :: ([] : List UInt8)).toArray ++ decB c).size ≤ maxLen ∧ ((-9223372036854775808 : Int) ≤ (↑x : Int) + (1 : Int) ∧ (↑x : Int) + (1 : Int) ≤ (9223372036854775807 : Int)) ∧ ∃ (y : Nat), y ≤ (hasS op).size ∧ (hasS op).size - y < (hasS op).size - x ∧ Value.string (joinB (insWs (op, a, b, c, m) x) sp ++ (ByteArray.mk ((32 : UInt8) :: (114 : UInt8) :: ([] : List UInt8)).toArray ++ decB c)) = Value.string (joinB (insWs (op, a, b, c, m) y) sp) ∧ Value.string (hasS op) = Value.string (hasS op) ∧ (↑x : Int) + (1 : Int) = (↑y : Int) ∧ op = op ∧ a = a ∧ b = b ∧ c = c ∧ m = m ∧ True) ∧ (((↑y.toNat : Int) == (67 : Int)) = false → (ByteArray.mk ((32 : UInt8) :: ([] : List UInt8)).toArray).size + (decB m).size ≤ maxLen ∧ (joinB (insWs (op, a, b, c, m) x) sp).size + (ByteArray.mk ((32 : UInt8) :: ([] : List UInt8)).toArray ++ decB m).size ≤ maxLen ∧ ((-9223372036854775808 : Int) ≤ (↑x : Int) + (1 : Int) ∧ (↑x : Int) + (1 : Int) ≤ (9223372036854775807 : Int)) ∧ ∃ (y : Nat), y ≤ (hasS op).size ∧ (hasS op).size - y < (hasS op).size - x ∧ Value.string (joinB (insWs (op, a, b, c, m) x) sp ++ (ByteArray.mk ((32 : UInt8) :: ([] : List UInt8)).toArray ++ decB m)) = Value.string (joinB (insWs (op, a, b, c, m) y) sp) ∧ Value.string (hasS op) = Value.string (hasS op) ∧ (↑x : Int) + (1 : Int) = (↑y : Int) ∧ op = op ∧ a = a ∧ b = b ∧ c = c ∧ m = m ∧ True)))) ∧ (decide ((↑x : Int) < (↑(hasS op).size : Int)) = false → Value.string (joinB (insWs (op, a, b, c, m) x) sp) = Value.string y.fst ∧ (0 : Int) = y.snd ∧ True))) = _) ?_
  have hr : i64R op ∧ i64R a ∧ i64R b ∧ i64R c ∧ i64R m := hr
  obtain ⟨_, ha, hb, hc, hm⟩ := hr
  have hy : lineF (op, a, b, c, m) = y := hy
  subst hy
  refine ⟨fun h => ?_, fun h => ?_⟩
  · rw [lineF_f (by simpa using h)]; exact ⟨rfl, rfl, trivial⟩
  rw [lineF_t (by simpa using h)]
  have hz := has_size op
  have hmx : 1000 ≤ maxLen := by decide
  have sa := decB_size ha.1 ha.2
  have sb := decB_size hb.1 hb.2
  have sc := decB_size hc.1 hc.2
  have sm := decB_size hm.1 hm.2
  have h1 : (ByteArray.mk (32 :: 114 :: ([] : List UInt8)).toArray).size = 2 := rfl
  have h2 : (ByteArray.mk (32 :: ([] : List UInt8)).toArray).size = 1 := rfl
  have e0 : joinB (insWs (op, a, b, c, m) 0) sp = nmF op := by
    show joinB [nmF op] sp = _
    exact join1 _
  refine ⟨⟨0, Nat.zero_le _, by rw [e0], rfl, rfl, rfl, rfl, rfl, rfl, rfl, trivial⟩, fun x hx => ⟨fun h => ⟨by simp only [decide_eq_true_eq] at h; omega, fun d hd => ?_⟩, fun h => ?_⟩⟩
  · have h : x < (hasS op).size := by simp only [decide_eq_true_eq] at h; omega
    have hd := get_at hd
    have hd2 := has_byte (List.mem_of_getElem? hd)
    have hst := insWs_step (i := (op, a, b, c, m)) hd
    have hl := insWs_len (op, a, b, c, m) x
    have hj := jsize _ (insWs_size (i := (op, a, b, c, m)) ha hb hc hm x)
    have hw : joinB (insWs (op, a, b, c, m) (x + 1)) sp = joinB (insWs (op, a, b, c, m) x) sp ++ (sp ++ fldW (op, a, b, c, m) d) := by
      rw [hst]; exact join_snoc _ (by rw [insWs]; simp)
    have fin : ∀ w : ByteArray, sp ++ fldW (op, a, b, c, m) d = w → Value.string (joinB (insWs (op, a, b, c, m) x) sp ++ w) = Value.string (joinB (insWs (op, a, b, c, m) (x + 1)) sp) := fun w e => by rw [hw, e]
    have sr : ∀ w : ByteArray, sp ++ (rB ++ w) = ByteArray.mk (32 :: 114 :: ([] : List UInt8)).toArray ++ w := fun w => by
      rw [← app_assoc]; congr 1
    simp only [ByteArray.size_append]
    refine ⟨fun q => ⟨by omega, by omega, by omega, x + 1, h, by omega, fin _ ?_, trivial, by simp, trivial, trivial, trivial, trivial, trivial, trivial⟩, fun q => ⟨fun q2 => ⟨by omega, by omega, by omega, x + 1, h, by omega, fin _ ?_, trivial, by simp, trivial, trivial, trivial, trivial, trivial, trivial⟩, fun q2 => ⟨fun q3 => ⟨by omega, by omega, by omega, x + 1, h, by omega, fin _ ?_, trivial, by simp, trivial, trivial, trivial, trivial, trivial, trivial⟩, fun q3 => ⟨by omega, by omega, by omega, x + 1, h, by omega, fin _ ?_, trivial, by simp, trivial, trivial, trivial, trivial, trivial, trivial⟩⟩⟩⟩
    all_goals
      rcases hd2 with rfl | rfl | rfl | rfl
      all_goals first | exact absurd q (by decide) | exact absurd q2 (by decide) | exact absurd q3 (by decide) | exact sr _ | rfl
  · rw [insWs_end (i := (op, a, b, c, m)) (by simp only [decide_eq_false_iff_not] at h; show (hasS op).size ≤ x; omega)]
    exact ⟨rfl, rfl, trivial⟩
abbrev linS : Spec := .pre (gS [pN] [pS, pI] lineF)
abbrev N13 : List (Nat × Spec) := (15, linS) :: (16, linS) :: N12
theorem N13_all : ∀ p ∈ N13, Valid Tryz.prog p.1 p.2 := vcons v15 (vcons v16 N12_all)
theorem N13_ok : ∀ f S, spL N13 f = some S → Valid Tryz.prog f S := spL_ok N13_all
end Go.Proofs.YtnbbooilapelmaaGreatDoor.V
