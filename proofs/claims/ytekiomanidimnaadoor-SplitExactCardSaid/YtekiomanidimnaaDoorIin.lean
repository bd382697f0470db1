/- Rows of integers that are read. -/
import Derived.Test.YtekiomanidimnaaDoorMul
set_option linter.unusedVariables false
set_option linter.unusedSimpArgs false

namespace Go.Proofs.YtekiomanidimnaaDoor
open Go.RowKit
def iints (l : List Int) : List Value := l.map fun a => Value.int .i64 a
theorem Rd.iint {w : World} {A : Option Addr} {l : List Int} (h : Rd w A (iints l)) {k : Nat} {x : Int} (hx : l[k]? = some x) : ∃ b o : Nat, A = some ⟨b, o, none⟩ ∧ b < w.heap.size ∧ w.cell? ⟨b, o + k, none⟩ = some (.int .i64 x) := by
  have hk := (List.getElem?_eq_some_iff.1 hx).1
  obtain ⟨b, o, e, hb, hc⟩ := h.at_ (i := k) (by unfold iints; simpa using hk)
  refine ⟨b, o, e, hb, ?_⟩
  rw [hc k (by unfold iints; simpa using hk)]
  unfold iints
  rw [List.getElem?_map, hx]; rfl
end Go.Proofs.YtekiomanidimnaaDoor
