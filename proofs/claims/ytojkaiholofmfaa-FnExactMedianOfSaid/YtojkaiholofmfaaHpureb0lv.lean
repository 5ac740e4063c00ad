/- The contract of pure_b0lv, or plain lemmas on the printed functions. -/
import Derived.Test.YtojkaiholofmfaaA0
namespace Go.Proofs.Ytojkaiholofmfaa.A
open Go.RowKit Go.Proofs.YtojkaiholofmfaaW.PrintWords Go.Proofs.YtojkaiholofmfaaW.PrintLast Go.Proofs.YtojkaiholofmfaaW.PrintMore
attribute [local go_sem] max2_int min2_int max_two min_two max_three min_three max_four min_four   -- for this text's walks alone
set_option linter.unusedVariables false
set_option linter.unusedSimpArgs false
/-- 2^64, under a name that nothing opens. -/
def BIGN : Nat := 18446744073709551616
theorem BIGN_ge : 9223372036854775809 ≤ BIGN := by unfold BIGN; exact Nat.le_of_ble_eq_true rfl
attribute [irreducible] BIGN
/-- Enough rounds: n times 2^64. -/
def Lv (n k : Nat) : Prop := n * BIGN ≤ k
theorem Lv.le {n m k : Nat} (h : Lv m k) (hn : n ≤ m) : Lv n k := Nat.le_trans (Nat.mul_le_mul_right _ hn) h
theorem Lv.big (n : Nat) : Lv n (n * BIGN) := Nat.le_refl _
theorem Lv.pos {n k : Nat} (h : Lv (n + 1) k) : BIGN ≤ k := by
  unfold Lv at h
  rw [Nat.succ_mul] at h
  omega
/-- Some rounds of a loop less, and one level less. -/
theorem Lv.sub {n k j : Nat} (h : Lv (n + 1) k) (hj : j ≤ BIGN) : Lv n (k - j) := by
  unfold Lv at *
  rw [Nat.succ_mul] at h
  omega
theorem Lv.succ {n k : Nat} (h : Lv (n + 1) k) : ∃ m, k = m + 1 ∧ Lv n m := by
  have hb := BIGN_ge
  refine ⟨k - 1, by have := h.pos; omega, Lv.sub h (by omega)⟩
/-- In a loop: k rounds are left, of which d may be used, and what stands behind is of level n. -/
theorem Lv.sub' {n k j : Nat} (h : Lv (n + 1) k) (hj : j ≤ 9223372036854775809) : Lv n (k - j) := h.sub (Nat.le_trans hj BIGN_ge)
theorem Lv.ge {n k : Nat} (h : Lv (n + 1) k) : 9223372036854775809 ≤ k := Nat.le_trans BIGN_ge h.pos
theorem wrap64_id {x : Int} (h0 : -9223372036854775808 ≤ x) (h1 : x ≤ 9223372036854775807) : wrap64 x = x := by
  unfold wrap64
  omega
theorem mx_nat (a : Int) (h : -9223372036854775807 ≤ a) (h1 : a ≤ 9223372036854775807) : mx a (wrap64 (-a)) = (a.natAbs : Int) := by
  rw [wrap64_id (by omega) (by omega)]
  unfold mx
  omega
theorem natAbs_tmod (a b : Int) : (Int.tmod a b).natAbs = a.natAbs % b.natAbs := Int.natAbs_tmod a b
/-- As Option.bind_some, but no step that the kernel has to see for itself. -/
theorem bsome {α β : Type} (x : α) (F : α → Option β) : (some x).bind F = F x := by rw [Option.bind_some]
theorem bnone {α β : Type} (F : α → Option β) : (none : Option α).bind F = none := by rw [Option.bind_none]
theorem Lv.up {n k : Nat} (h : Lv n k) (j : Nat) : Lv n (k + j) := Nat.le_trans h (Nat.le_add_right _ _)
/-- Rounds enough, one of them to spare. -/
theorem Lv.any (n : Nat) : ∃ m, Lv n m := ⟨_, Lv.big n⟩
end Go.Proofs.Ytojkaiholofmfaa.A
