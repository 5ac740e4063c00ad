/- The plain law of FnExactScatterOf: what is computed is true, for every input of the row. -/
import Derived.Test.YtojkaiholofmfaaA0
import Derived.Test.YtojkaiholofmfaaA5x3
import Derived.Test.YtojkaiholofmfaaHpureb0lv
import Derived.Test.YtojkaiholofmfaaHpured0laws
import Derived.Test.YtojkaiholofmfaaHpured1med
namespace Go.Proofs.Ytojkaiholofmfaa.Pure
open Go.RowKit Go.Proofs.Ytojkaiholofmfaa.A Go.Proofs.YtojkaiholofmfaaW.PrintWords Go.Proofs.YtojkaiholofmfaaW.PrintLast
set_option linter.unusedVariables false
set_option linter.unusedSimpArgs false
theorem FnExactScatterOf : laws_FnExactScatterOf.Pure := by
  intro l0 h1 h2 h3
  obtain ⟨k, hk⟩ := Lv.any 8
  refine ⟨k + 1, ?_⟩
  unfold laws_FnExactScatterOf.f
  by_cases hl : (l0.length : Int) > 1048576
  · rw [if_pos hl]
  · have hu := hk.up 1
    rw [if_neg hl, toInt64S_eq (hu.le (by omega)) l0 (by omega), bsome, spec_ScatterOf_eq (hu.le (by omega)) l0 (by omega), bsome, bsome, impl_ScatterOf_eq (hu.le (by omega)) l0 (by omega), bsome, eqFrac_eq, bsome]
    generalize (if rdsB l0 = true then _ else _ : Int × Int × Int) = r
    rw [if_pos (by simp)]
    simp only [laws_FnExactScatterOf.j0]
    rw [if_neg (by simp), toInt64S_eq (hk.le (by omega)) l0 (by omega), bsome, eqInt64S_eq (hk.le (by omega)) l0 l0 (by omega), bsome, if_pos (by simp)]

end Go.Proofs.Ytojkaiholofmfaa.Pure
