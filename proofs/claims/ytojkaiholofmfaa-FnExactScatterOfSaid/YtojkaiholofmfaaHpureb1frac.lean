/- The contract of pure_b1frac, or plain lemmas on the printed functions. -/
import Derived.Test.YtojkaiholofmfaaA0
import Derived.Test.YtojkaiholofmfaaA0x0
import Derived.Test.YtojkaiholofmfaaA0x3
import Derived.Test.YtojkaiholofmfaaHpureb0lv
namespace Go.Proofs.Ytojkaiholofmfaa.A
open Go.RowKit Go.Proofs.YtojkaiholofmfaaW.PrintWords Go.Proofs.YtojkaiholofmfaaW.PrintLast Go.Proofs.YtojkaiholofmfaaW.PrintMore
attribute [local go_sem] max2_int min2_int max_two min_two max_three min_three max_four min_four   -- for this text's walks alone
set_option linter.unusedVariables false
set_option linter.unusedSimpArgs false
theorem spec_gcd_l0 (n : Nat) : ∀ (k : Nat) (a b : Int), b.natAbs < n → 0 ≤ a → 0 ≤ b → n ≤ k → spec_l01Gcd.l0 k a b = some ((Nat.gcd a.natAbs b.natAbs : Nat) : Int) := by
  induction n with
  | zero => intro k a b hb; omega
  | succ n ih =>
    intro k a b hb ha h0 hk
    obtain ⟨k, rfl⟩ : ∃ m, k = m + 1 := ⟨k - 1, by omega⟩
    simp only [spec_l01Gcd.l0]
    by_cases e : b = 0
    · subst e
      rw [if_pos rfl]
      simp
      omega
    · rw [if_neg e]
      have hm : (Int.tmod a b).natAbs = a.natAbs % b.natAbs := Int.natAbs_tmod a b
      have hl : a.natAbs % b.natAbs < b.natAbs := Nat.mod_lt _ (by omega)
      rw [ih k b (Int.tmod a b) (by omega) h0 (Int.tmod_nonneg _ ha) (by omega)]
      rw [hm, Nat.gcd_comm, ← Nat.gcd_rec, Nat.gcd_comm]
theorem spec_gcd_eq {k : Nat} (hk : Lv 1 k) (a b : Int) (ha : 0 ≤ a) (hb : 0 ≤ b) (hb2 : b ≤ 9223372036854775807) : spec_l01Gcd.f k a b = some ((Nat.gcd a.natAbs b.natAbs : Nat) : Int) := by
  unfold spec_l01Gcd.f
  exact spec_gcd_l0 9223372036854775809 k a b (by omega) ha hb hk.ge
theorem impl_gcd_l0 (n : Nat) : ∀ (k : Nat) (a b : Int), b.natAbs < n → a.natAbs ≤ 9223372036854775807 → b.natAbs ≤ 9223372036854775807 → n ≤ k → impl_gcd.l0 k a b = some ((Nat.gcd a.natAbs b.natAbs : Nat) : Int) := by
  induction n with
  | zero => intro k a b hb; omega
  | succ n ih =>
    intro k a b hb ha h0 hk
    obtain ⟨k, rfl⟩ : ∃ m, k = m + 1 := ⟨k - 1, by omega⟩
    simp only [impl_gcd.l0]
    by_cases e : b = 0
    · subst e
      rw [if_pos rfl, mx_nat a (by omega) (by omega)]
      simp
    · rw [if_neg e]
      have hm : (Int.tmod a b).natAbs = a.natAbs % b.natAbs := Int.natAbs_tmod a b
      have hl : a.natAbs % b.natAbs < b.natAbs := Nat.mod_lt _ (by omega)
      rw [ih k b (Int.tmod a b) (by omega) h0 (by omega) (by omega)]
      rw [hm, Nat.gcd_comm, ← Nat.gcd_rec, Nat.gcd_comm]
theorem impl_gcd_eq {k : Nat} (hk : Lv 1 k) (a b : Int) (ha : a.natAbs ≤ 9223372036854775807) (hb : b.natAbs ≤ 9223372036854775807) : impl_gcd.f k a b = some ((Nat.gcd a.natAbs b.natAbs : Nat) : Int) := by
  unfold impl_gcd.f
  exact impl_gcd_l0 9223372036854775809 k a b (by omega) ha hb hk.ge
end Go.Proofs.Ytojkaiholofmfaa.A
