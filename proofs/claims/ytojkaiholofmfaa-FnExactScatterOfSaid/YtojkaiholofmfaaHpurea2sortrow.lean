/- The contract of pure_a2sortrow, or plain lemmas on the printed functions. -/
import Derived.Test.YtojkaiholofmfaaA0
import Derived.Shelf.SlGeneric
import Derived.Shelf.SlSortCmp.NoneTotal
namespace Go.Proofs.Ytojkaiholofmfaa.A
open Go.RowKit Go.Proofs.YtojkaiholofmfaaW.PrintWords Go.Proofs.YtojkaiholofmfaaW.PrintLast Go.Proofs.YtojkaiholofmfaaW.PrintMore
attribute [local go_sem] max2_int min2_int max_two min_two max_three min_three max_four min_four   -- for this text's walks alone
set_option linter.unusedVariables false
set_option linter.unusedSimpArgs false
theorem flat_two {α : Type} [Inhabited α] (enc : α → List Value) (k : Nat) (hk : ∀ x, (enc x).length = k) (l : List α) (j : Nat) (x : α) (hj : l[j]? = some x) : ((Go.Sort.flatK enc k l.toArray).toList.drop (j * k)).take k = enc x := by
  have hjl : j < l.length := (List.getElem?_eq_some_iff.1 hj).1
  have hb : j * k + k ≤ l.length * k := by
    have := Nat.mul_le_mul_right k (show j + 1 ≤ l.length from hjl); rwa [Nat.add_mul, Nat.one_mul] at this
  apply List.ext_getElem?
  intro c
  by_cases hc : c < k
  · rw [List.getElem?_take_of_lt hc, List.getElem?_drop, Array.getElem?_toList]
    have hlt : j * k + c < (Go.Sort.flatK enc k l.toArray).size := by rw [Go.Sort.size_flatK]; simp; omega
    rw [Array.getElem?_eq_getElem hlt, ← getElem!_pos (Go.Sort.flatK enc k l.toArray) (j * k + c) hlt, Go.Sort.get_flatK _ _ _ _ (by simpa using hlt)]
    have e1 : (j * k + c) / k = j := (Go.Sort.blk_iff k j _ (by omega)).1 ⟨by omega, by omega⟩
    have e2 : (j * k + c) % k = c := by rw [Nat.mod_eq_sub_div_mul, e1]; omega
    have hx : l.toArray[j]! = x := by
      rw [getElem!_pos _ _ (by simpa using hjl)]; simpa using (List.getElem?_eq_some_iff.1 hj).2
    rw [e1, e2, hx, getElem!_pos _ _ (by rw [hk]; exact hc), List.getElem?_eq_getElem (by rw [hk]; exact hc)]
  · rw [List.getElem?_eq_none (by simp; omega), List.getElem?_eq_none (by rw [hk]; omega)]
/-- A row of the call's own, sorted: it holds what is sorted. -/
theorem sorted_row {α β : Type} [Inhabited α] (D : Kd β) (e : Nat) (val : α → β) (enc : α → List Value) (hk : ∀ x, (enc x).length = D.sz) (hM : ∀ w base ok x cs, D.M w base ok (val x) cs → cs = enc x) (hM' : ∀ w base ok x, D.M w base ok (val x) (enc x))
    {w : World} {base : Nat} {ok : Nat → Prop} {v : Value} {l : List α} (hR : D.R e w base ok v (l.map val)) (hne : l ≠ []) :
    ∃ g cap, v = .slice (some ⟨g, 0, none⟩) l.length cap ∧ g < w.heap.size ∧ base ≤ g ∧ l.length ≤ cap ∧ Go.Sort.HoldsK enc D.sz w g 0 l.toArray ∧
      ∀ (n : Nat) (os : Array Obj) (l' : List α), l'.length = l.length → D.R e (Go.Proofs.sortWorldK enc D.sz w g 0 n l'.toArray os) base ok v (l'.map val) ∧ Below base w (Go.Proofs.sortWorldK enc D.sz w g 0 n l'.toArray os) := by
  obtain ⟨h0, inner, ⟨hlen, hown⟩, hreps⟩ := hR
  have hpos : 0 < l.length := by cases l with | nil => exact absurd rfl hne | cons a r => simp
  rcases hown with ⟨_, hz⟩ | ⟨g, cap, cur, rfl, hbg, hheap, hn, hcap, hsz, htake⟩
  · simp at hz; exact absurd hz hne
  have hgl : g < w.heap.size := (Array.getElem?_eq_some_iff.1 hheap).1
  have hlm : (l.map val).length = l.length := by simp
  rw [hlm] at hlen hn htake ⊢
  refine ⟨g, cap, rfl, hgl, hbg, hn, ?_, ?_⟩
  · intro t ht
    rw [Go.Sort.size_flatK] at ht
    have ht' : t < l.length * D.sz := by simpa using ht
    have hk0 : 0 < D.sz := by rcases Nat.eq_zero_or_pos D.sz with h | h; rw [h] at ht'; omega; exact h
    refine ⟨?_, by simp [World.frozen?, hheap]⟩
    rw [Go.Sort.get_flatK _ _ _ _ (by simpa using ht')]
    have hj : t / D.sz < l.length := Nat.div_lt_of_lt_mul (by rw [Nat.mul_comm]; exact ht')
    have hc : t % D.sz < D.sz := Nat.mod_lt _ hk0
    have hr := hM _ _ _ _ _ (hreps.2 (t / D.sz) (val l[t / D.sz]) (by simp [hj]))
    have hx : l.toArray[t / D.sz]! = l[t / D.sz] := by rw [getElem!_pos _ _ (by simpa using hj)]; simp
    rw [hx, ← hr, getElem!_pos _ _ (by rw [hr, hk]; exact hc)]
    simp only [World.cell?, hheap, Nat.zero_add, Option.isSome_none, Bool.false_eq_true, if_false]
    rw [← Array.getElem?_toList]
    have e1 : (inner.drop (t / D.sz * D.sz)).take D.sz = (inner.drop (t / D.sz * D.sz)).take D.sz := rfl
    have : cur.toList[t]? = inner[t]? := by rw [← htake, List.getElem?_take_of_lt ht']
    rw [this]
    simp only [id, List.getElem_take, List.getElem_drop]
    have e3 : t / D.sz * D.sz + t % D.sz = t := by rw [Nat.mul_comm]; exact Nat.div_add_mod t D.sz
    rw [List.getElem?_eq_getElem (by rw [hlen]; exact ht')]
    congr 1
    simp only [e3]
  · intro n os l' hl'
    have hheap' : (Go.Proofs.sortWorldK enc D.sz w g 0 n l'.toArray os).heap[g]? = some (.cells (Go.Sort.putCells id 0 (Go.Sort.flatK enc D.sz l'.toArray) cur) e (0, 0)) := by
      unfold Go.Proofs.sortWorldK
      rw [Go.Sort.heap_grow_old _ _ (by simpa [Go.Sort.putRowK, Go.Sort.putRow, Go.Sort.mapBlock, Go.Sort.ahead] using hgl)]
      simp [Go.Sort.putRowK, Go.Sort.putRow, Go.Sort.mapBlock, Go.Sort.ahead, Array.getElem?_modify, hheap, Go.Sort.onCells]
    constructor
    · refine ⟨h0, (Go.Sort.flatK enc D.sz l'.toArray).toList, ⟨by simp [hl'], .inr ⟨g, cap, _, by simp [hl'], hbg, hheap', by simpa [hl'] using hn, hcap, by simp [Go.Sort.putCells, hsz], ?_⟩⟩, by simp, ?_⟩
      · have hle : l'.length * D.sz ≤ cur.size := by rw [hsz, hl']; exact Nat.mul_le_mul_right _ hn
        apply List.ext_getElem?
        intro j
        have hlm' : (l'.map val).length = l'.length := by simp
        rw [hlm']
        by_cases hj : j < l'.length * D.sz
        · rw [List.getElem?_take_of_lt hj, Array.getElem?_toList, Array.getElem?_toList]
          have hjs : j < (Go.Sort.flatK enc D.sz l'.toArray).size := by rw [Go.Sort.size_flatK]; simpa using hj
          have hjc : j < cur.size := by omega
          simp only [Go.Sort.putCells, Array.getElem?_mapIdx, Nat.zero_le, true_and, Nat.zero_add, hjs, if_true, Nat.sub_zero, id]
          rw [Array.getElem?_eq_getElem hjc, Array.getElem?_eq_getElem hjs, getElem!_pos (Go.Sort.flatK enc D.sz l'.toArray) j hjs]
          rfl
        · rw [List.getElem?_take_eq_none (by omega), List.getElem?_eq_none (by simp; omega)]
      · intro j p hp
        rw [List.getElem?_map] at hp
        cases hx : l'[j]? with
        | none => rw [hx] at hp; cases hp
        | some x =>
          rw [hx] at hp
          obtain rfl := Option.some.inj hp
          rw [flat_two enc D.sz hk l' j x hx]
          exact hM' _ _ _ _
    · refine ⟨rfl, rfl, rfl, by simp [Go.Proofs.sortWorldK, Go.Sort.grow, Go.Sort.putRowK, Go.Sort.putRow, Go.Sort.mapBlock, Go.Sort.ahead], fun k hkb => ?_⟩
      have hgk : g ≠ k := by omega
      unfold Go.Proofs.sortWorldK
      rw [Go.Sort.heap_grow_old _ _ (by simp [Go.Sort.putRowK, Go.Sort.putRow, Go.Sort.mapBlock, Go.Sort.ahead]; omega)]
      simp [Go.Sort.putRowK, Go.Sort.putRow, Go.Sort.mapBlock, Go.Sort.ahead, Array.getElem?_modify, hgk]
end Go.Proofs.Ytojkaiholofmfaa.A
