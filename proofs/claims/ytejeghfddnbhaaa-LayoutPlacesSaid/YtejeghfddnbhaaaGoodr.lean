/-
  The reference's answer whether a configuration is good.
-/
import Derived.Test.YtejeghfddnbhaaaGoodrA
import Derived.Test.YtejeghfddnbhaaaGoodrB
import Derived.Test.YtejeghfddnbhaaaGoodrC
import Derived.Test.YtejeghfddnbhaaaGoodrD
import Derived.Test.YtejeghfddnbhaaaGoodrE
namespace Go.Proofs.Ytejeghfddnbhaaa
open Go.RowKit
theorem goodr_any (a b c d e f g : Int) (w : World) : Calls Try.prog 30 #[.agg #[.int .i64 a, .int .i64 b, .int .i64 c, .int .i64 d, .int .i64 e, .int .i64 f, .int .i64 g]] w fun E w' => E = .returned (.bool (goodC a b c d e f g)) ∧ Below w.heap.size w w' := by
  by_cases k0 : 1 ≤ a
  · skip
    by_cases k1 : a ≤ 8
    · skip
      by_cases k2 : 2 ≤ b
      · skip
        by_cases k3 : b ≤ 64
        · skip
          by_cases k4 : 1 ≤ c
          · skip
            by_cases k5 : c < b
            · skip
              by_cases d1 : d = 1
              · subst d1
                by_cases k7 : 1 ≤ e
                · skip
                  by_cases k8 : e ≤ 8
                  · skip
                    by_cases k9 : 1 ≤ f
                    · skip
                      by_cases k10 : f ≤ 16
                      · skip
                        by_cases k11 : 1 ≤ g
                        · skip
                          by_cases k12 : g ≤ 16
                          · skip
                            rw [show goodC a b c 1 e f g = true from decide_eq_true ⟨by omega, by omega, by omega, by omega, by omega, by omega, by omega, by omega, by omega, by omega, by omega, by omega, by omega⟩]
                            exact goodr_d1y a b c e f g w k0 k1 k2 k3 k4 k5 k7 k8 k9 k10 k11 k12
                          · skip
                            rw [show goodC a b c 1 e f g = false from decide_eq_false (fun ⟨h1, h2, h3, h4, h5, h6, h7, h8, h9, h10, h11, h12, h13⟩ => by omega)]
                            exact goodr_d1n12 a b c e f g w k0 k1 k2 k3 k4 k5 k7 k8 k9 k10 k11 k12
                        · skip
                          rw [show goodC a b c 1 e f g = false from decide_eq_false (fun ⟨h1, h2, h3, h4, h5, h6, h7, h8, h9, h10, h11, h12, h13⟩ => by omega)]
                          exact goodr_d1n11 a b c e f g w k0 k1 k2 k3 k4 k5 k7 k8 k9 k10 k11
                      · skip
                        rw [show goodC a b c 1 e f g = false from decide_eq_false (fun ⟨h1, h2, h3, h4, h5, h6, h7, h8, h9, h10, h11, h12, h13⟩ => by omega)]
                        exact goodr_d1n10 a b c e f g w k0 k1 k2 k3 k4 k5 k7 k8 k9 k10
                    · skip
                      rw [show goodC a b c 1 e f g = false from decide_eq_false (fun ⟨h1, h2, h3, h4, h5, h6, h7, h8, h9, h10, h11, h12, h13⟩ => by omega)]
                      exact goodr_d1n9 a b c e f g w k0 k1 k2 k3 k4 k5 k7 k8 k9
                  · skip
                    rw [show goodC a b c 1 e f g = false from decide_eq_false (fun ⟨h1, h2, h3, h4, h5, h6, h7, h8, h9, h10, h11, h12, h13⟩ => by omega)]
                    exact goodr_d1n8 a b c e f g w k0 k1 k2 k3 k4 k5 k7 k8
                · skip
                  rw [show goodC a b c 1 e f g = false from decide_eq_false (fun ⟨h1, h2, h3, h4, h5, h6, h7, h8, h9, h10, h11, h12, h13⟩ => by omega)]
                  exact goodr_d1n7 a b c e f g w k0 k1 k2 k3 k4 k5 k7
              by_cases d2 : d = 2
              · subst d2
                by_cases k7 : 1 ≤ e
                · skip
                  by_cases k8 : e ≤ 8
                  · skip
                    by_cases k9 : 1 ≤ f
                    · skip
                      by_cases k10 : f ≤ 16
                      · skip
                        by_cases k11 : 1 ≤ g
                        · skip
                          by_cases k12 : g ≤ 16
                          · skip
                            rw [show goodC a b c 2 e f g = true from decide_eq_true ⟨by omega, by omega, by omega, by omega, by omega, by omega, by omega, by omega, by omega, by omega, by omega, by omega, by omega⟩]
                            exact goodr_d2y a b c e f g w k0 k1 k2 k3 k4 k5 k7 k8 k9 k10 k11 k12
                          · skip
                            rw [show goodC a b c 2 e f g = false from decide_eq_false (fun ⟨h1, h2, h3, h4, h5, h6, h7, h8, h9, h10, h11, h12, h13⟩ => by omega)]
                            exact goodr_d2n12 a b c e f g w k0 k1 k2 k3 k4 k5 k7 k8 k9 k10 k11 k12
                        · skip
                          rw [show goodC a b c 2 e f g = false from decide_eq_false (fun ⟨h1, h2, h3, h4, h5, h6, h7, h8, h9, h10, h11, h12, h13⟩ => by omega)]
                          exact goodr_d2n11 a b c e f g w k0 k1 k2 k3 k4 k5 k7 k8 k9 k10 k11
                      · skip
                        rw [show goodC a b c 2 e f g = false from decide_eq_false (fun ⟨h1, h2, h3, h4, h5, h6, h7, h8, h9, h10, h11, h12, h13⟩ => by omega)]
                        exact goodr_d2n10 a b c e f g w k0 k1 k2 k3 k4 k5 k7 k8 k9 k10
                    · skip
                      rw [show goodC a b c 2 e f g = false from decide_eq_false (fun ⟨h1, h2, h3, h4, h5, h6, h7, h8, h9, h10, h11, h12, h13⟩ => by omega)]
                      exact goodr_d2n9 a b c e f g w k0 k1 k2 k3 k4 k5 k7 k8 k9
                  · skip
                    rw [show goodC a b c 2 e f g = false from decide_eq_false (fun ⟨h1, h2, h3, h4, h5, h6, h7, h8, h9, h10, h11, h12, h13⟩ => by omega)]
                    exact goodr_d2n8 a b c e f g w k0 k1 k2 k3 k4 k5 k7 k8
                · skip
                  rw [show goodC a b c 2 e f g = false from decide_eq_false (fun ⟨h1, h2, h3, h4, h5, h6, h7, h8, h9, h10, h11, h12, h13⟩ => by omega)]
                  exact goodr_d2n7 a b c e f g w k0 k1 k2 k3 k4 k5 k7
              by_cases d4 : d = 4
              · subst d4
                by_cases k7 : 1 ≤ e
                · skip
                  by_cases k8 : e ≤ 8
                  · skip
                    by_cases k9 : 1 ≤ f
                    · skip
                      by_cases k10 : f ≤ 16
                      · skip
                        by_cases k11 : 1 ≤ g
                        · skip
                          by_cases k12 : g ≤ 16
                          · skip
                            rw [show goodC a b c 4 e f g = true from decide_eq_true ⟨by omega, by omega, by omega, by omega, by omega, by omega, by omega, by omega, by omega, by omega, by omega, by omega, by omega⟩]
                            exact goodr_d4y a b c e f g w k0 k1 k2 k3 k4 k5 k7 k8 k9 k10 k11 k12
                          · skip
                            rw [show goodC a b c 4 e f g = false from decide_eq_false (fun ⟨h1, h2, h3, h4, h5, h6, h7, h8, h9, h10, h11, h12, h13⟩ => by omega)]
                            exact goodr_d4n12 a b c e f g w k0 k1 k2 k3 k4 k5 k7 k8 k9 k10 k11 k12
                        · skip
                          rw [show goodC a b c 4 e f g = false from decide_eq_false (fun ⟨h1, h2, h3, h4, h5, h6, h7, h8, h9, h10, h11, h12, h13⟩ => by omega)]
                          exact goodr_d4n11 a b c e f g w k0 k1 k2 k3 k4 k5 k7 k8 k9 k10 k11
                      · skip
                        rw [show goodC a b c 4 e f g = false from decide_eq_false (fun ⟨h1, h2, h3, h4, h5, h6, h7, h8, h9, h10, h11, h12, h13⟩ => by omega)]
                        exact goodr_d4n10 a b c e f g w k0 k1 k2 k3 k4 k5 k7 k8 k9 k10
                    · skip
                      rw [show goodC a b c 4 e f g = false from decide_eq_false (fun ⟨h1, h2, h3, h4, h5, h6, h7, h8, h9, h10, h11, h12, h13⟩ => by omega)]
                      exact goodr_d4n9 a b c e f g w k0 k1 k2 k3 k4 k5 k7 k8 k9
                  · skip
                    rw [show goodC a b c 4 e f g = false from decide_eq_false (fun ⟨h1, h2, h3, h4, h5, h6, h7, h8, h9, h10, h11, h12, h13⟩ => by omega)]
                    exact goodr_d4n8 a b c e f g w k0 k1 k2 k3 k4 k5 k7 k8
                · skip
                  rw [show goodC a b c 4 e f g = false from decide_eq_false (fun ⟨h1, h2, h3, h4, h5, h6, h7, h8, h9, h10, h11, h12, h13⟩ => by omega)]
                  exact goodr_d4n7 a b c e f g w k0 k1 k2 k3 k4 k5 k7
              by_cases d8 : d = 8
              · subst d8
                by_cases k7 : 1 ≤ e
                · skip
                  by_cases k8 : e ≤ 8
                  · skip
                    by_cases k9 : 1 ≤ f
                    · skip
                      by_cases k10 : f ≤ 16
                      · skip
                        by_cases k11 : 1 ≤ g
                        · skip
                          by_cases k12 : g ≤ 16
                          · skip
                            rw [show goodC a b c 8 e f g = true from decide_eq_true ⟨by omega, by omega, by omega, by omega, by omega, by omega, by omega, by omega, by omega, by omega, by omega, by omega, by omega⟩]
                            exact goodr_d8y a b c e f g w k0 k1 k2 k3 k4 k5 k7 k8 k9 k10 k11 k12
                          · skip
                            rw [show goodC a b c 8 e f g = false from decide_eq_false (fun ⟨h1, h2, h3, h4, h5, h6, h7, h8, h9, h10, h11, h12, h13⟩ => by omega)]
                            exact goodr_d8n12 a b c e f g w k0 k1 k2 k3 k4 k5 k7 k8 k9 k10 k11 k12
                        · skip
                          rw [show goodC a b c 8 e f g = false from decide_eq_false (fun ⟨h1, h2, h3, h4, h5, h6, h7, h8, h9, h10, h11, h12, h13⟩ => by omega)]
                          exact goodr_d8n11 a b c e f g w k0 k1 k2 k3 k4 k5 k7 k8 k9 k10 k11
                      · skip
                        rw [show goodC a b c 8 e f g = false from decide_eq_false (fun ⟨h1, h2, h3, h4, h5, h6, h7, h8, h9, h10, h11, h12, h13⟩ => by omega)]
                        exact goodr_d8n10 a b c e f g w k0 k1 k2 k3 k4 k5 k7 k8 k9 k10
                    · skip
                      rw [show goodC a b c 8 e f g = false from decide_eq_false (fun ⟨h1, h2, h3, h4, h5, h6, h7, h8, h9, h10, h11, h12, h13⟩ => by omega)]
                      exact goodr_d8n9 a b c e f g w k0 k1 k2 k3 k4 k5 k7 k8 k9
                  · skip
                    rw [show goodC a b c 8 e f g = false from decide_eq_false (fun ⟨h1, h2, h3, h4, h5, h6, h7, h8, h9, h10, h11, h12, h13⟩ => by omega)]
                    exact goodr_d8n8 a b c e f g w k0 k1 k2 k3 k4 k5 k7 k8
                · skip
                  rw [show goodC a b c 8 e f g = false from decide_eq_false (fun ⟨h1, h2, h3, h4, h5, h6, h7, h8, h9, h10, h11, h12, h13⟩ => by omega)]
                  exact goodr_d8n7 a b c e f g w k0 k1 k2 k3 k4 k5 k7
              rw [show goodC a b c d e f g = false from decide_eq_false (fun ⟨h1, h2, h3, h4, h5, h6, h7, h8, h9, h10, h11, h12, h13⟩ => by omega)]
              exact goodr_n6 a b c d e f g w k0 k1 k2 k3 k4 k5 d1 d2 d4 d8
            · skip
              rw [show goodC a b c d e f g = false from decide_eq_false (fun ⟨h1, h2, h3, h4, h5, h6, h7, h8, h9, h10, h11, h12, h13⟩ => by omega)]
              exact goodr_n5 a b c d e f g w k0 k1 k2 k3 k4 k5
          · skip
            rw [show goodC a b c d e f g = false from decide_eq_false (fun ⟨h1, h2, h3, h4, h5, h6, h7, h8, h9, h10, h11, h12, h13⟩ => by omega)]
            exact goodr_n4 a b c d e f g w k0 k1 k2 k3 k4
        · skip
          rw [show goodC a b c d e f g = false from decide_eq_false (fun ⟨h1, h2, h3, h4, h5, h6, h7, h8, h9, h10, h11, h12, h13⟩ => by omega)]
          exact goodr_n3 a b c d e f g w k0 k1 k2 k3
      · skip
        rw [show goodC a b c d e f g = false from decide_eq_false (fun ⟨h1, h2, h3, h4, h5, h6, h7, h8, h9, h10, h11, h12, h13⟩ => by omega)]
        exact goodr_n2 a b c d e f g w k0 k1 k2
    · skip
      rw [show goodC a b c d e f g = false from decide_eq_false (fun ⟨h1, h2, h3, h4, h5, h6, h7, h8, h9, h10, h11, h12, h13⟩ => by omega)]
      exact goodr_n1 a b c d e f g w k0 k1
  · skip
    rw [show goodC a b c d e f g = false from decide_eq_false (fun ⟨h1, h2, h3, h4, h5, h6, h7, h8, h9, h10, h11, h12, h13⟩ => by omega)]
    exact goodr_n0 a b c d e f g w k0
end Go.Proofs.Ytejeghfddnbhaaa
