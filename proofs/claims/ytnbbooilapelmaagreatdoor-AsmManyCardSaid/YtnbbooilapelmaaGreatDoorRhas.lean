import Derived.Test.YtnbbooilapelmaaGreatDoorHas
namespace Go.Proofs.YtnbbooilapelmaaGreatDoor
open Go.RowKit
set_option maxHeartbeats 4000000 in
theorem rhas_any (op : Int) (W : World) (ho : (Lit.int .i64 op).wf = true) :
    Calls Tryz.prog 33 #[.int .i64 op] W fun e w' => e = .returned (.string (hasS op)) ∧ Below W.heap.size W w' := by
  by_cases h : 0 ≤ op ∧ op ≤ 22
  · have hc : op = 0 ∨ op = 1 ∨ op = 2 ∨ op = 3 ∨ op = 4 ∨ op = 5 ∨ op = 6 ∨ op = 7 ∨ op = 8 ∨ op = 9 ∨ op = 10 ∨ op = 11 ∨ op = 12 ∨ op = 13 ∨ op = 14 ∨ op = 15 ∨ op = 16 ∨ op = 17 ∨ op = 18 ∨ op = 19 ∨ op = 20 ∨ op = 21 ∨ op = 22 := by omega
    clear h
    rcases hc with rfl | rfl | rfl | rfl | rfl | rfl | rfl | rfl | rfl | rfl | rfl | rfl | rfl | rfl | rfl | rfl | rfl | rfl | rfl | rfl | rfl | rfl | rfl
    · rw [show hasS 0 = ⟨#[]⟩ from rfl]
      go_enter Tryz.func33, Tryz.ntmps33
      go_wp2
      go_ret
      exact ⟨rfl, Below.refl _ _⟩
    · rw [show hasS 1 = ⟨#[65, 73]⟩ from rfl]
      go_enter Tryz.func33, Tryz.ntmps33
      go_wp2
      go_ret
      exact ⟨rfl, Below.refl _ _⟩
    · rw [show hasS 2 = ⟨#[65, 66, 67]⟩ from rfl]
      go_enter Tryz.func33, Tryz.ntmps33
      go_wp2
      go_ret
      exact ⟨rfl, Below.refl _ _⟩
    · rw [show hasS 3 = ⟨#[65, 66, 67]⟩ from rfl]
      go_enter Tryz.func33, Tryz.ntmps33
      go_wp2
      go_ret
      exact ⟨rfl, Below.refl _ _⟩
    · rw [show hasS 4 = ⟨#[65, 66, 67]⟩ from rfl]
      go_enter Tryz.func33, Tryz.ntmps33
      go_wp2
      go_ret
      exact ⟨rfl, Below.refl _ _⟩
    · rw [show hasS 5 = ⟨#[65, 66, 67]⟩ from rfl]
      go_enter Tryz.func33, Tryz.ntmps33
      go_wp2
      go_ret
      exact ⟨rfl, Below.refl _ _⟩
    · rw [show hasS 6 = ⟨#[65, 66, 67]⟩ from rfl]
      go_enter Tryz.func33, Tryz.ntmps33
      go_wp2
      go_ret
      exact ⟨rfl, Below.refl _ _⟩
    · rw [show hasS 7 = ⟨#[65, 66, 67]⟩ from rfl]
      go_enter Tryz.func33, Tryz.ntmps33
      go_wp2
      go_ret
      exact ⟨rfl, Below.refl _ _⟩
    · rw [show hasS 8 = ⟨#[65, 66, 73]⟩ from rfl]
      go_enter Tryz.func33, Tryz.ntmps33
      go_wp2
      go_ret
      exact ⟨rfl, Below.refl _ _⟩
    · rw [show hasS 9 = ⟨#[65, 66, 73]⟩ from rfl]
      go_enter Tryz.func33, Tryz.ntmps33
      go_wp2
      go_ret
      exact ⟨rfl, Below.refl _ _⟩
    · rw [show hasS 10 = ⟨#[65, 66, 67]⟩ from rfl]
      go_enter Tryz.func33, Tryz.ntmps33
      go_wp2
      go_ret
      exact ⟨rfl, Below.refl _ _⟩
    · rw [show hasS 11 = ⟨#[65, 66, 67]⟩ from rfl]
      go_enter Tryz.func33, Tryz.ntmps33
      go_wp2
      go_ret
      exact ⟨rfl, Below.refl _ _⟩
    · rw [show hasS 12 = ⟨#[66, 73]⟩ from rfl]
      go_enter Tryz.func33, Tryz.ntmps33
      go_wp2
      go_ret
      exact ⟨rfl, Below.refl _ _⟩
    · rw [show hasS 13 = ⟨#[66, 73]⟩ from rfl]
      go_enter Tryz.func33, Tryz.ntmps33
      go_wp2
      go_ret
      exact ⟨rfl, Below.refl _ _⟩
    · rw [show hasS 14 = ⟨#[66, 73]⟩ from rfl]
      go_enter Tryz.func33, Tryz.ntmps33
      go_wp2
      go_ret
      exact ⟨rfl, Below.refl _ _⟩
    · rw [show hasS 15 = ⟨#[]⟩ from rfl]
      go_enter Tryz.func33, Tryz.ntmps33
      go_wp2
      go_ret
      exact ⟨rfl, Below.refl _ _⟩
    · rw [show hasS 16 = ⟨#[]⟩ from rfl]
      go_enter Tryz.func33, Tryz.ntmps33
      go_wp2
      go_ret
      exact ⟨rfl, Below.refl _ _⟩
    · rw [show hasS 17 = ⟨#[73]⟩ from rfl]
      go_enter Tryz.func33, Tryz.ntmps33
      go_wp2
      go_ret
      exact ⟨rfl, Below.refl _ _⟩
    · rw [show hasS 18 = ⟨#[65, 66, 73]⟩ from rfl]
      go_enter Tryz.func33, Tryz.ntmps33
      go_wp2
      go_ret
      exact ⟨rfl, Below.refl _ _⟩
    · rw [show hasS 19 = ⟨#[65, 66, 73]⟩ from rfl]
      go_enter Tryz.func33, Tryz.ntmps33
      go_wp2
      go_ret
      exact ⟨rfl, Below.refl _ _⟩
    · rw [show hasS 20 = ⟨#[65, 66, 73]⟩ from rfl]
      go_enter Tryz.func33, Tryz.ntmps33
      go_wp2
      go_ret
      exact ⟨rfl, Below.refl _ _⟩
    · rw [show hasS 21 = ⟨#[65]⟩ from rfl]
      go_enter Tryz.func33, Tryz.ntmps33
      go_wp2
      go_ret
      exact ⟨rfl, Below.refl _ _⟩
    · rw [show hasS 22 = ⟨#[]⟩ from rfl]
      go_enter Tryz.func33, Tryz.ntmps33
      go_wp2
      go_ret
      exact ⟨rfl, Below.refl _ _⟩
  · rw [show hasS op = ⟨#[]⟩ from if_neg h]
    have n1 : (op == 1) = false := by simp; omega
    have n2 : (op == 2) = false := by simp; omega
    have n3 : (op == 3) = false := by simp; omega
    have n4 : (op == 4) = false := by simp; omega
    have n5 : (op == 5) = false := by simp; omega
    have n6 : (op == 6) = false := by simp; omega
    have n7 : (op == 7) = false := by simp; omega
    have n8 : (op == 8) = false := by simp; omega
    have n9 : (op == 9) = false := by simp; omega
    have n10 : (op == 10) = false := by simp; omega
    have n11 : (op == 11) = false := by simp; omega
    have n12 : (op == 12) = false := by simp; omega
    have n13 : (op == 13) = false := by simp; omega
    have n14 : (op == 14) = false := by simp; omega
    have n17 : (op == 17) = false := by simp; omega
    have n18 : (op == 18) = false := by simp; omega
    have n19 : (op == 19) = false := by simp; omega
    have n20 : (op == 20) = false := by simp; omega
    have n21 : (op == 21) = false := by simp; omega
    clear h
    go_enter Tryz.func33, Tryz.ntmps33
    go_wp2
    go_ret
    exact ⟨rfl, Below.refl _ _⟩
end Go.Proofs.YtnbbooilapelmaaGreatDoor
