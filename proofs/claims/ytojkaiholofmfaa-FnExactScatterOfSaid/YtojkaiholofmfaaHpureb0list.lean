/- The contract of pure_b0list, or plain lemmas on the printed functions. -/
import Derived.Test.YtojkaiholofmfaaA0
import Derived.Test.YtojkaiholofmfaaHpureb0lv
namespace Go.Proofs.Ytojkaiholofmfaa.A
open Go.RowKit Go.Proofs.YtojkaiholofmfaaW.PrintWords Go.Proofs.YtojkaiholofmfaaW.PrintLast Go.Proofs.YtojkaiholofmfaaW.PrintMore
attribute [local go_sem] max2_int min2_int max_two min_two max_three min_three max_four min_four   -- for this text's walks alone
set_option linter.unusedVariables false
set_option linter.unusedSimpArgs false
theorem wsucc {n : Nat} (h : n ≤ 4000000000000000000) : wrap64 ((n : Int) + 1) = ((n + 1 : Nat) : Int) := by rw [wrap64_id (by omega) (by omega)]; omega
theorem rd_nat (l : List Int) (n : Nat) : rd l (n : Int) = l.getD n 0 := by simp [rd]
theorem drop_rd {l : List Int} {n : Nat} (h : n < l.length) : l.drop n = rd l (n : Int) :: l.drop (n + 1) := by
  rw [rd_nat, List.drop_eq_getElem_cons h]
  simp [List.getD, h]
theorem take_rd {l : List Int} {n : Nat} (h : n < l.length) : l.take (n + 1) = l.take n ++ [rd l (n : Int)] := by
  rw [rd_nat, List.take_succ_eq_append_getElem h]
  simp [List.getD, h]
theorem rd_mem {l : List Int} {n : Nat} (h : n < l.length) : rd l (n : Int) ∈ l := by
  rw [rd_nat]
  simp [List.getD, h]
theorem drop_getD {α : Type} (z : α) {l : List α} {n : Nat} (h : n < l.length) : l.drop n = l.getD n z :: l.drop (n + 1) := by
  rw [List.drop_eq_getElem_cons h]
  simp [List.getD, h]
theorem Lv.rounds {n k j : Nat} (h : Lv (n + 1) k) (hj : j ≤ 9000000000000000000) : j ≤ k := by have := h.ge; omega
end Go.Proofs.Ytojkaiholofmfaa.A
