/- Walks of what a node reads, writes, goes on to, in the program and in the document; and of the question whether two lists are the same. Conditions: the node, the lists lie in memory. -/
import Derived.Test.YtncpehhfjkncoaaIrOnce
import Derived.Test.YtncpehhfjkncoaaIrNode
set_option linter.unusedVariables false
set_option linter.unusedSimpArgs false
namespace Go.Proofs.Ytncpehhfjkncoaa
open Go.RowKit

def readsL (x : NodeD) : List Int := if x.op = 2 ∨ x.op = 5 ∨ x.op = 7 ∨ x.op = 9 ∨ x.op = 12 ∨ x.op = 14 ∨ x.op = 17 ∨ x.op = 18 then onceL [x.a] else if x.op = 3 ∨ x.op = 8 then onceL [x.a, x.b] else if x.op = 11 ∨ x.op = 13 then onceL x.args else []
def writesL (x : NodeD) : List Int := if x.op = 1 ∨ x.op = 2 ∨ x.op = 3 ∨ x.op = 4 ∨ x.op = 6 ∨ x.op = 7 ∨ x.op = 11 ∨ x.op = 16 then onceL [x.d] else if x.op = 15 then onceL [x.d, x.e] else []
theorem take_snoc_eq {α : Type} {la lb : List α} {j : Nat} (h : la.take j = lb.take j) (he : la[j]? = lb[j]?) : la.take (j + 1) = lb.take (j + 1) := by
  rw [List.take_add_one, List.take_add_one, h, he]
theorem ne_of_at {α : Type} {la lb : List α} {j : Nat} (he : la[j]? ≠ lb[j]?) : la ≠ lb := fun h => he (by rw [h])
theorem ret_b {a b : Bool} (h : a = b) : Ending.returned (.bool a) = .returned (.bool b) := by rw [h]
end Go.Proofs.Ytncpehhfjkncoaa
