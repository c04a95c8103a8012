/- Walks of the question whether two nodes are the same, in the program and in the document. Conditions: the nodes lie in memory. -/
import Derived.Test.YtfjalejlbegkeaaIrReads
set_option linter.unusedVariables false
set_option linter.unusedSimpArgs false
namespace Go.Proofs.Ytfjalejlbegkeaa
open Go.RowKit

def ncode (x : NodeD) : List Int := [x.op, x.byo, x.d, x.e, x.a, x.b, x.f, x.cell, x.imm, x.next, x.els] ++ x.args
def gcode (g : GraphD) : List (List Int) := [g.params, g.kinds, [g.cells], g.init, [if g.result then 1 else 0], [g.keep], [g.entry]] ++ g.nodes.map ncode
def eqN (x y : NodeD) : Bool := decide (ncode x = ncode y)
def eqG (g h : GraphD) : Bool := decide (gcode g = gcode h)
def eqGs (gs hs : List GraphD) : Bool := decide (gs.map gcode = hs.map gcode)
theorem ncode_inj {x y : NodeD} (h : ncode x = ncode y) : x = y := by
  obtain ⟨a1, a2, a3, a4, a5, a6, a7, a8, a9, a10, a11, a12⟩ := x
  obtain ⟨b1, b2, b3, b4, b5, b6, b7, b8, b9, b10, b11, b12⟩ := y
  simp only [ncode, List.cons_append, List.nil_append, List.cons.injEq] at h
  obtain ⟨rfl, rfl, rfl, rfl, rfl, rfl, rfl, rfl, rfl, rfl, rfl, rfl⟩ := h
  rfl
theorem map_inj_of {α β : Type} {f : α → β} (hf : ∀ a b, f a = f b → a = b) : ∀ {la lb : List α}, la.map f = lb.map f → la = lb
  | [], [], _ => rfl
  | [], _ :: _, h => by simp at h
  | _ :: _, [], h => by simp at h
  | a :: la, b :: lb, h => by
    simp only [List.map_cons, List.cons.injEq] at h
    rw [hf a b h.1, map_inj_of hf h.2]
theorem gcode_inj {x y : GraphD} (h : gcode x = gcode y) : x = y := by
  obtain ⟨a1, a2, a3, a4, a5, a6, a7, a8⟩ := x
  obtain ⟨b1, b2, b3, b4, b5, b6, b7, b8⟩ := y
  simp only [gcode, List.cons_append, List.nil_append, List.cons.injEq, and_true] at h
  obtain ⟨rfl, rfl, rfl, rfl, h5, rfl, rfl, h⟩ := h
  have h6 : a5 = b5 := by cases a5 <;> cases b5 <;> simp_all
  rw [map_inj_of (fun _ _ => ncode_inj) h, h6]
theorem eqGs_iff (gs hs : List GraphD) : eqGs gs hs = true ↔ gs = hs := by
  unfold eqGs
  rw [decide_eq_true_eq]
  exact ⟨map_inj_of fun _ _ => gcode_inj, fun h => by rw [h]⟩
theorem eqGs_not {gs hs : List GraphD} (h : gs ≠ hs) : eqGs gs hs = false := by
  cases he : eqGs gs hs with
  | false => rfl
  | true => exact absurd ((eqGs_iff _ _).1 he) h
theorem eqG_iff (g h : GraphD) : eqG g h = true ↔ g = h := by
  unfold eqG
  rw [decide_eq_true_eq]
  exact ⟨gcode_inj, fun h => by rw [h]⟩
theorem eqG_not {g h : GraphD} (hn : g ≠ h) : eqG g h = false := by
  cases he : eqG g h with
  | false => rfl
  | true => exact absurd ((eqG_iff _ _).1 he) hn
theorem eqN_iff (x y : NodeD) : eqN x y = true ↔ x = y := by
  unfold eqN
  rw [decide_eq_true_eq]
  exact ⟨ncode_inj, fun h => by rw [h]⟩
theorem eqN_not {x y : NodeD} (hn : x ≠ y) : eqN x y = false := by
  cases he : eqN x y with
  | false => rfl
  | true => exact absurd ((eqN_iff _ _).1 he) hn
end Go.Proofs.Ytfjalejlbegkeaa
