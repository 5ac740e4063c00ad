/- The contract of pure_a0idx, or plain lemmas on the printed functions. -/
import Derived.Test.YtojkaiholofmfaaA0
import Derived.Shelf.Abstract
namespace Go.Proofs.Ytojkaiholofmfaa.A
open Go.RowKit Go.Proofs.YtojkaiholofmfaaW.PrintWords Go.Proofs.YtojkaiholofmfaaW.PrintLast Go.Proofs.YtojkaiholofmfaaW.PrintMore
attribute [local go_sem] max2_int min2_int max_two min_two max_three min_three max_four min_four   -- for this text's walks alone
set_option linter.unusedVariables false
set_option linter.unusedSimpArgs false
/-- The first place at which p holds, or -1. -/
def idxB {α : Type} (p : α → Bool) (l : List α) : Int := match l.findIdx? p with | some i => (i : Int) | none => -1
theorem idxB_hit {α : Type} (p : α → Bool) (l : List α) (k : Nat) (hk : k < l.length) (h : p l[k] = true) (hb : ∀ j, ∀ hj : j < k, p (l[j]'(by omega)) = false) : idxB p l = k := by
  have : l.findIdx? p = some k := by
    rw [List.findIdx?_eq_some_iff_getElem]
    exact ⟨hk, h, fun j hj => by simpa using hb j hj⟩
  unfold idxB; rw [this]
theorem idxB_miss {α : Type} (p : α → Bool) (l : List α) (hb : ∀ j, ∀ hj : j < l.length, p l[j] = false) : idxB p l = -1 := by
  have : l.findIdx? p = none := by
    rw [List.findIdx?_eq_none_iff]
    intro x hx
    obtain ⟨j, hj, rfl⟩ := List.getElem_of_mem hx
    exact hb j hj
  unfold idxB; rw [this]
theorem idxB_any {α : Type} (p : α → Bool) (l : List α) : decide (0 ≤ idxB p l) = l.any p := by
  unfold idxB
  rw [Bool.eq_iff_iff]
  cases h : l.findIdx? p with
  | none => simp; rw [List.findIdx?_eq_none_iff] at h; exact fun x hx => by simpa using h x hx
  | some i => simp; obtain ⟨hi, hp, _⟩ := List.findIdx?_eq_some_iff_getElem.1 h; exact ⟨l[i], by simp, hp⟩
theorem drawn_trans {w w1 w2 : World} (h : Drawn0 w w1) (h2 : Drawn0 w1 w2) : Drawn0 w w2 := by
  obtain ⟨n, rfl⟩ := h
  obtain ⟨m, rfl⟩ := h2
  exact ⟨n + m, World.drewN_drewN ..⟩
end Go.Proofs.Ytojkaiholofmfaa.A
