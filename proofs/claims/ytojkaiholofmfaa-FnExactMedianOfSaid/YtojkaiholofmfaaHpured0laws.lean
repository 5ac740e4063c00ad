/- The contract of pure_d0laws, or plain lemmas on the printed functions. -/
import Derived.Test.YtojkaiholofmfaaA0
import Derived.Test.YtojkaiholofmfaaA0x3
import Derived.Test.YtojkaiholofmfaaA0x6
import Derived.Test.YtojkaiholofmfaaA0x7
import Derived.Test.YtojkaiholofmfaaHpureb0list
import Derived.Test.YtojkaiholofmfaaHpureb0lv
namespace Go.Proofs.Ytojkaiholofmfaa.A
open Go.RowKit Go.Proofs.YtojkaiholofmfaaW.PrintWords Go.Proofs.YtojkaiholofmfaaW.PrintLast Go.Proofs.YtojkaiholofmfaaW.PrintMore
attribute [local go_sem] max2_int min2_int max_two min_two max_three min_three max_four min_four   -- for this text's walks alone
set_option linter.unusedVariables false
set_option linter.unusedSimpArgs false
theorem toInt64S_l0 (m : Nat) : ∀ (k n : Nat) (l : List Int), n + m = l.length → l.length ≤ 1000000000 → m + 1 ≤ k → laws_toInt64S.l0 k l (l.take n ++ List.replicate m 0) (n : Int) = some l := by
  induction m with
  | zero =>
    intro k n l h hl hk
    obtain ⟨k, rfl⟩ : ∃ j, k = j + 1 := ⟨k - 1, by omega⟩
    simp only [laws_toInt64S.l0]
    rw [if_neg (by omega)]
    simp [List.take_of_length_le (show l.length ≤ n by omega)]
  | succ m ih =>
    intro k n l h hl hk
    obtain ⟨k, rfl⟩ : ∃ j, k = j + 1 := ⟨k - 1, by omega⟩
    simp only [laws_toInt64S.l0]
    have ht : (l.take n).length = n := by simp; omega
    rw [if_pos (by omega), if_pos (by omega), if_pos (by simp; omega), wsucc (by omega)]
    have hs : ((l.take n ++ List.replicate (m + 1) 0).set ((n : Int)).toNat (rd l (n : Int))) = l.take (n + 1) ++ List.replicate m 0 := by
      rw [take_rd (by omega), Int.toNat_natCast, List.set_append_right _ _ (by omega), ht, Nat.sub_self, List.replicate_succ]
      simp
    rw [hs]
    exact ih k (n + 1) l (by omega) hl (by omega)
theorem toInt64S_eq {k : Nat} (hk : Lv 1 k) (l : List Int) (hl : l.length ≤ 1000000000) : laws_toInt64S.f k l = some l := by
  unfold laws_toInt64S.f
  rw [if_pos (by omega), if_pos (by omega)]
  have := toInt64S_l0 l.length k 0 l (by omega) hl (hk.rounds (by omega))
  simpa using this
theorem eqInt64S_l0 (m : Nat) : ∀ (k n : Nat) (a b : List Int), n + m = a.length → a.length = b.length → a.length ≤ 1000000000 → m + 1 ≤ k → laws_eqInt64S.l0 k a b (n : Int) = some (decide (a.drop n = b.drop n)) := by
  induction m with
  | zero =>
    intro k n a b h hab hl hk
    obtain ⟨k, rfl⟩ : ∃ j, k = j + 1 := ⟨k - 1, by omega⟩
    simp only [laws_eqInt64S.l0]
    rw [if_neg (by omega), List.drop_eq_nil_of_le (by omega), List.drop_eq_nil_of_le (by omega)]
    simp
  | succ m ih =>
    intro k n a b h hab hl hk
    obtain ⟨k, rfl⟩ : ∃ j, k = j + 1 := ⟨k - 1, by omega⟩
    simp only [laws_eqInt64S.l0]
    rw [if_pos (by omega), if_pos (by omega), if_pos (by omega), wsucc (by omega), ih k (n + 1) a b (by omega) hab hl (by omega), drop_rd (l := a) (n := n) (by omega), drop_rd (l := b) (n := n) (by omega)]
    by_cases e : rd a (n : Int) = rd b (n : Int)
    · rw [if_pos e, e]; simp
    · rw [if_neg e]; simp [e]
theorem eqInt64S_eq {k : Nat} (hk : Lv 1 k) (a b : List Int) (hl : a.length ≤ 1000000000) : laws_eqInt64S.f k a b = some (decide (a = b)) := by
  unfold laws_eqInt64S.f
  by_cases h : a.length = b.length
  · rw [if_pos (by omega)]
    have := eqInt64S_l0 a.length k 0 a b (by omega) h hl (hk.rounds (by omega))
    simpa using this
  · rw [if_neg (by omega)]
    have : a ≠ b := by rintro rfl; exact h rfl
    simp [this]
theorem eqFrac_eq (a b c d : Int) : laws_eqFrac.f a b c d = some (decide (a = c ∧ b = d)) := by
  unfold laws_eqFrac.f
  by_cases h : a = c
  · by_cases h2 : b = d
    · rw [if_pos h, if_pos h2]; simp [h, h2]
    · rw [if_pos h, if_neg h2]; simp [h2]
  · rw [if_neg h]; simp [h]
end Go.Proofs.Ytojkaiholofmfaa.A
