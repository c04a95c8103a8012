/- A map of the call's own from numbers to numbers, as a function. No condition. -/
import Derived.Test.YtncpehhfjkncoaaLinP
import Derived.Maps.OwnOps
import Derived.Maps.OwnSet
import Derived.Maps.Views
set_option linter.unusedVariables false
set_option linter.unusedSimpArgs false
namespace Go.Proofs.Ytncpehhfjkncoaa
open Go.RowKit Go.Maps

theorem keysI : Keyed Try.prog 3 := int_keyed Try.underlying3
theorem zeroI (w : World) : (zeroValue 3).run Try.prog w = .ok (.int .i64 0) w := by kernel_rfl
theorem wfI (k : Nat) (hk : k < 9223372036854775808) : (Lit.int .i64 (k : Int)).wf = true := by
  simp [Lit.wf, IntKind.min, IntKind.max, IntKind.bits, IntKind.signed]; omega
theorem lit_inj {a b : Int} (h : (DataW.lit (.int .i64 a) : DataW Unit) = .lit (.int .i64 b)) : a = b := by
  simpa using h
theorem keyI (k : Nat) (hk : k < 9223372036854775808) : keyOf Try.prog 3 (.int .i64 k) = some (.int .i64 k) := keyOf_int_mk Try.underlying3 (wfI k hk)
/-- block b is a map of at most n entries that answers as f does -/
def IMap (w : World) (b n : Nat) (f : Nat → Option Nat) : Prop :=
  ∃ D : DataW Unit, w.ownsMap Try.prog 3 (plainElem Try.prog 3) b n D ∧
    ∀ k : Nat, (∀ v, f k = some v → Maps.has D (.int .i64 k) = true ∧ ∀ z, D.atKey (.int .i64 k) z = .lit (.int .i64 v)) ∧ (f k = none → Maps.has D (.int .i64 k) = false)
section
variable {w w' : World} {b n : Nat} {f : Nat → Option Nat}
theorem IMap.made (w : World) : IMap (w.alloc (.map #[] 0)) w.heap.size 0 (fun _ => none) :=
  ⟨_, World.ownsMap_made w Try.prog _ _, fun k => ⟨nofun, fun _ => rfl⟩⟩
theorem IMap.lt (h : IMap w b n f) : b < w.heap.size := by
  obtain ⟨D, h, _⟩ := h
  exact h.lt
theorem IMap.kept {row : Option Nat} (h : IMap w b n f) (hg : w.grownBy w' row) (hne : some b ≠ row) : IMap w' b n f := by
  obtain ⟨D, h1, h2⟩ := h
  exact ⟨D, h1.kept hg hne, h2⟩
theorem IMap.alloc (h : IMap w b n f) (o : Obj) : IMap (w.alloc o) b n f := h.kept (World.grownBy_alloc w o none) nofun
theorem IMap.drew (h : IMap w b n f) : IMap w.drew b n f := h
theorem IMap.mono (h : IMap w b n f) {n' : Nat} (hn : n ≤ n') : IMap w b n' f := by
  obtain ⟨D, h1, h2⟩ := h
  exact ⟨D, h1.mono hn, h2⟩
theorem IMap.set (h : IMap w b n f) {p : Addr} (hp : b ≠ p.block) (u : Value) : IMap (w.setCell p u) b n f :=
  h.kept (row := some p.block) ⟨rfl, rfl, rfl, by simp [World.setCell], fun k _ hk => Below.heap_setCell w p u k (fun e => hk (by rw [e]))⟩ (fun e => hp (Option.some.inj e))
theorem IMap.below {B : Nat} (h : IMap w b n f) (hb : Below B w w') (hg : b < B) : IMap w' b n f := by
  obtain ⟨D, ⟨es, clock, hh, h1⟩, h2⟩ := h
  exact ⟨D, ⟨es, clock, (hb.block b hg).trans hh, h1⟩, h2⟩
theorem IMap.ne_blk {g : Nat} {t : TypeId} {cs : Array Value} (h : IMap w b n f) (hg : Blk w g t cs) : b ≠ g := by
  rintro rfl
  obtain ⟨D, ⟨es, clock, hh, _⟩, _⟩ := h
  unfold Blk at hg
  rw [hh] at hg
  cases hg
theorem IMap.ne_row {base size m : Nat} {e : TypeId} {v : Value} {xs : List Value} (h : IMap w b n f) (hv : w.ownsRow base e size v m xs) : some b ≠ v.ownBlock := by
  rcases hv.2 with ⟨rfl, _⟩ | ⟨g', cap, cur, rfl, _, hh, _⟩
  · nofun
  · intro e
    have e' : b = g' := by simpa [Value.ownBlock] using e
    exact h.ne_blk (show Blk w g' _ _ from hh) e'
theorem IMap.look (h : IMap w b n f) (k : Nat) (hk : k < 9223372036854775808) : (Instr.lookup 70 (.map (some b)) (.int .i64 k) false).run Try.prog w = .ok (.int .i64 (((f k).getD 0 : Nat) : Int)) w := by
  obtain ⟨D, h1, h2⟩ := h
  obtain ⟨c, hrun, hat, _⟩ := h1.lookup_int keysI Try.underlying70 Try.underlying3 (zeroI w) (keyI k hk)
  rw [hrun]
  rcases hf : f k with _ | v
  · rw [atKey_of_not_has ((h2 k).2 hf)] at hat
    rw [← lit_inj hat]; rfl
  · rw [((h2 k).1 v hf).2] at hat
    rw [← lit_inj hat]; rfl
theorem IMap.look_ok (h : IMap w b n f) (k : Nat) (hk : k < 9223372036854775808) : (Instr.lookup 70 (.map (some b)) (.int .i64 k) true).run Try.prog w = .ok (.tuple #[.int .i64 (((f k).getD 0 : Nat) : Int), .bool (f k).isSome]) w := by
  obtain ⟨D, h1, h2⟩ := h
  obtain ⟨v, ps, hrun, hv⟩ := h1.look_ok keysI Try.underlying70 (zeroI w) (plainElem_int Try.underlying3 (by decide)) (keyI k hk)
  obtain ⟨c, rfl, hc, _⟩ := plainElem_int_inv Try.underlying3 hv
  simp only [Prod.mk.injEq] at hc
  have hat := hc.1
  rw [hrun]
  rcases hf : f k with _ | u
  · rw [atKey_of_not_has ((h2 k).2 hf)] at hat
    rw [← lit_inj hat, (h2 k).2 hf]; rfl
  · rw [((h2 k).1 u hf).2] at hat
    rw [← lit_inj hat, ((h2 k).1 u hf).1]; rfl
theorem IMap.put (h : IMap w b n f) (k v : Nat) (hk : k < 9223372036854775808) (hv : v < 9223372036854775808) (hn : n < maxLen) :
    ∃ w', (Instr.mapUpdate 70 (.map (some b)) (.int .i64 k) (.int .i64 v)).run Try.prog w = .ok () w' ∧ IMap w' b (n + 1) (upd f k v) ∧ w.grownBy w' (some b) := by
  obtain ⟨D, h1, h2⟩ := h
  have hD := h1.isMap
  obtain ⟨w', hrun, r1, r2⟩ := h1.update keysI Try.underlying70 hn (keyI k hk) (plainElem_int (a := (v : Int)) Try.underlying3 (wfI v hv))
  refine ⟨w', hrun, ⟨_, r1, fun j => ?_⟩, r2⟩
  have hkey : WideAt.IsKeyLit (.int .i64 (k : Int)) := by first | trivial | simp [WideAt.IsKeyLit]
  by_cases hj : j = k
  · subst hj
    rw [upd_at]
    refine ⟨fun u hu => ?_, nofun⟩
    injection hu with hu
    subst hu
    exact ⟨has_put_same hD hkey _, fun z => atKey_put_same hD hkey _ z⟩
  · have hne : (Lit.int .i64 (j : Int)) ≠ Lit.int .i64 (k : Int) := fun e => by
      injection e with _ e
      exact hj (by omega)
    rw [upd_ne hj, has_put_other hne]
    refine ⟨fun u hu => ⟨((h2 j).1 u hu).1, fun z => ?_⟩, (h2 j).2⟩
    rw [atKey_put_other hne]
    exact ((h2 j).1 u hu).2 z
end
/-- a store into the map, at the operation -/
theorem wpList_put (w : World) {ops : Array Oper} {rest : List Oper} {o : Oper} {a : Act} {Q : Exit → Act → World → Prop}
    (hg : o.guard = none) (m x v : Operand) (hop : o.op = Op.mapUpdate 70 m x v) (b n : Nat) (f : Nat → Option Nat)
    (hm : a.eval m = .map (some b)) (h : IMap w b n f) (hn : n < maxLen) (k u : Nat) (hk : k < 9223372036854775808) (hu : u < 9223372036854775808) (hx : a.eval x = .int .i64 k) (hv : a.eval v = .int .i64 u)
    (hK : ∀ w', IMap w' b (n + 1) (upd f k u) → w.grownBy w' (some b) → wpList Try.prog ops Q rest (a.put o.dst undef) w') : wpList Try.prog ops Q (o :: rest) a w := by
  refine wpList_plain hg fun K' hK' => ?_
  obtain ⟨w', hrun, r1, r2⟩ := h.put k u hk hu hn
  unfold Oper.wp
  simp [execOp, hop, hm, hx, hv, hrun, Result.andThen]
  exact hK' _ _ (hK w' r1 r2)
end Go.Proofs.Ytncpehhfjkncoaa
