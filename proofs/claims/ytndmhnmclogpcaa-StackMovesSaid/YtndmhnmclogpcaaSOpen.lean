/- A machine's stack, a list of moves, that came in as arguments, as plain data. No condition. -/
import Derived.Test.YtndmhnmclogpcaaOpenP
import Derived.Test.YtndmhnmclogpcaaSDuo
set_option linter.unusedVariables false
set_option linter.unusedSimpArgs false
namespace Go.Proofs.Ytndmhnmclogpcaa
open Go.ChangeShapes Go.WideShapes Go.ChangeAt Go.RowKit Go.Deep

def mvCells (m : MoveD) : List Value := [.int .u64 m.base, .int .i64 m.size, .slice m.WA m.wn m.wc, .slice m.RA m.rn m.rc]
def bfCells (base : Int) (A : Option Addr) (n c : Nat) (regs : List Int) : List Value := .int .u64 base :: .slice A n c :: regs.map (Value.int .u64)
section
variable {H : Type} {enc : TypeId × Value → H} {w : World}
theorem one_cell {v u : Value} (h : [v] = [u]) : v = u := by injection h
theorem open_mv {fuel : Nat} {cs : List Value} {x : DataW H × List MemPlace} (h : DataW.trod enc Try.prog w 0 (fun _ => true) true fuel 56 cs = some x) (hs : Small Try.prog 56 x.1) : ∃ m : MoveD, cs = mvCells m ∧ MoveIn w w.heap.size m := by
  obtain ⟨hl, hf⟩ := open_fields Try.underlying56 (by kernel_rfl) (by kernel_rfl) h hs
  obtain ⟨v0, n0, y0, h0, t0, _⟩ := hf 0 _ rfl
  obtain ⟨v1, n1, y1, h1, t1, _⟩ := hf 1 _ rfl
  obtain ⟨v2, n2, y2, h2, t2, s2⟩ := hf 2 _ rfl
  obtain ⟨v3, n3, y3, h3, t3, s3⟩ := hf 3 _ rfl
  obtain ⟨a0, e0, _, w0⟩ := DataW.trod_int Try.underlying29 t0
  obtain ⟨a1, e1, _, w1⟩ := DataW.trod_int Try.underlying3 t1
  obtain ⟨A, n, c, zs, e2, hr, hzl, hn, hc, hb, hw⟩ := open_nums Try.underlying32 Try.underlying29 (by kernel_rfl) (by kernel_rfl) t2 s2 (by_ := 8)
  obtain ⟨A', n', c', zs', e3, hr', hzl', hn', hc', hb', hw'⟩ := open_nums Try.underlying22 Try.underlying3 (by kernel_rfl) (by kernel_rfl) t3 s3 (by_ := 8)
  obtain rfl := one_cell e0
  obtain rfl := one_cell e1
  obtain rfl := one_cell e2
  obtain rfl := one_cell e3
  match cs, hl with
  | [c0, c1, c2, c3], _ =>
    simp only [List.getElem?_cons_zero, List.getElem?_cons_succ, Option.some.injEq] at h0 h1 h2 h3
    subst h0 h1 h2 h3
    exact ⟨⟨a0, a1, A, n, c, zs, A', n', c', zs'⟩, rfl, ⟨u64_of_wf w0, bounds_i64 w1, hr, hzl, ⟨hn, by simp only; omega⟩, fun z hz => u64_of_wf (hw z hz), hr', hzl', ⟨hn', by simp only; omega⟩⟩⟩
theorem flatten_mvs : ∀ (css : List (List Value)) (is : List MoveD), css.length = is.length → (∀ (i : Nat) a, is[i]? = some a → ∃ cs', css[i]? = some cs' ∧ cs' = mvCells a) → css.flatten = is.flatMap mvCells
  | [], [], _, _ => rfl
  | c :: cs, i :: is, hl, h => by
    obtain ⟨c', h1, h2⟩ := h 0 i rfl
    simp only [List.getElem?_cons_zero, Option.some.injEq] at h1
    rw [List.flatten_cons, List.flatMap_cons, h1, h2, flatten_mvs cs is (by simpa using hl) fun k a ha => h (k + 1) a (by simpa using ha)]
theorem open_mvs {base : Nat} {v : Value} {d : DataW H} {p : List MemPlace} (hv : Value.okWide Try.prog w .any base 48 v) (h : DataW.Trod enc Try.prog w 0 (fun _ => true) true 48 v d p) (hs : Small Try.prog 48 d) :
    ∃ (A : Option Addr) (n c : Nat) (l : List MoveD), v = .slice A n c ∧ Reads w w.heap.size 4 A n (l.flatMap mvCells) ∧ l.length = n ∧ n ≤ c ∧ n ≤ 140737488351232 ∧ ∀ o ∈ l, MoveIn w w.heap.size o := by
  obtain ⟨A0, n0, c0, rfl⟩ := okWide_slice Try.underlying48 hv
  obtain ⟨fuel, hf⟩ := h
  have hf' : DataW.trod enc Try.prog w 0 (fun _ => true) true fuel 48 [.slice A0 n0 c0] = some (d, p) := hf
  obtain ⟨A, n, c, css, is, e, hn, hc, hr, h1, h2, h3, h4, h5⟩ := open_rows Try.underlying48 (by kernel_rfl) (by kernel_rfl) (by omega) (fun cs (o : MoveD) => cs = mvCells o ∧ MoveIn w w.heap.size o) (fun _ _ _ a b _ => open_mv a b) hf' hs (size := 4) (by_ := 64)
  have e := one_cell e
  rw [e]
  refine ⟨A, n, c, is, rfl, ?_, h2, hn, by omega, fun i hi => ?_⟩
  · rw [← flatten_mvs css is (by omega) fun k a ha => by
      obtain ⟨cs', q1, q2, _⟩ := h5 k a ha
      exact ⟨cs', q1, q2⟩]
    exact h4
  · obtain ⟨k, hk, rfl⟩ := List.getElem_of_mem hi
    obtain ⟨_, _, _, q⟩ := h5 k _ (List.getElem?_eq_getElem hk)
    exact q
/-- an array of words -/
theorem open_words16 {fuel : Nat} {cs : List Value} {x : DataW H × List MemPlace} (h : DataW.trod enc Try.prog w 0 (fun _ => true) true fuel 45 cs = some x) : ∃ regs : List Int, cs = regs.map (Value.int .u64) ∧ regs.length = 16 ∧ ∀ r ∈ regs, U64 r := by
  obtain ⟨xs, m, _, _, hlen, hxl, hff⟩ := DataW.trod_array Try.underlying45 h
  have h16 : Try.prog.cellsOf 45 = 16 := by kernel_rfl
  have h1 : Try.prog.cellsOf 29 = 1 := by kernel_rfl
  rw [h16] at hlen
  have hx : ∀ i, i < 16 → ∃ a, cs[i]? = some (.int .u64 a) ∧ U64 a := fun i hi => by
    have h2 := hff i hi
    rw [h1, Nat.mul_one] at h2
    have hone' : (cs.drop i).take 1 = [cs[i]'(by omega)] := by
      rw [List.drop_eq_getElem_cons (by omega)]
      rfl
    rw [hone', List.getElem?_eq_getElem (show i < xs.length by omega)] at h2
    obtain ⟨a, e, _, wf⟩ := DataW.trod_int Try.underlying29 h2
    have e := one_cell e
    exact ⟨a, by rw [List.getElem?_eq_getElem (by omega), e], u64_of_wf wf⟩
  refine ⟨cs.map intOf, ?_, by rw [List.length_map, hlen], fun r hr => ?_⟩
  · apply List.ext_getElem?
    intro i
    rw [List.getElem?_map, List.getElem?_map]
    by_cases hi : i < 16
    · obtain ⟨a, e, _⟩ := hx i hi
      rw [e]; rfl
    · rw [List.getElem?_eq_none (by omega)]; rfl
  · obtain ⟨v, hv, rfl⟩ := List.mem_map.1 hr
    obtain ⟨i, hi, rfl⟩ := List.getElem_of_mem hv
    obtain ⟨a, e, hu⟩ := hx i (by omega)
    rw [List.getElem?_eq_getElem hi] at e
    injection e with e
    rw [e]; exact hu
theorem open_before {r : Reach} {b0 : Nat} {v : Value} {d : DataW H} {p : List MemPlace} (hv : Value.okWide Try.prog w r b0 47 v) (h : DataW.Trod enc Try.prog w 0 (fun _ => true) true 47 v d p) (hs : Small Try.prog 47 d) :
    ∃ (base : Int) (A : Option Addr) (n c : Nat) (zs regs : List Int), v = .agg (bfCells base A n c regs).toArray ∧ U64 base ∧ Reads w w.heap.size 1 A n (zs.map (Value.int .u64)) ∧ zs.length = n ∧ n ≤ c ∧ c ≤ 140737488351232 ∧ (∀ z ∈ zs, U64 z) ∧ regs.length = 16 ∧ ∀ z ∈ regs, U64 z := by
  obtain ⟨cs, rfl, hsz⟩ := okWide_struct Try.underlying47 hv
  obtain ⟨fuel, hf⟩ := h
  obtain ⟨ys, m, _, hy, hlen, hyl, hff⟩ := DataW.trod_struct Try.underlying47 hf
  have h18 : Try.prog.cellsOf 47 = 18 := by kernel_rfl
  have h1 : Try.prog.cellsOf 29 = 1 := by kernel_rfl
  have h2 : Try.prog.cellsOf 32 = 1 := by kernel_rfl
  have h16 : Try.prog.cellsOf 45 = 16 := by kernel_rfl
  rw [h18] at hlen
  have hyl3 : ys.length = 3 := hyl
  have t0 : DataW.trod enc Try.prog w 0 (fun _ => true) true m 29 (((Value.agg cs).cells.toList.drop 0).take (Try.prog.cellsOf 29)) = ys[0]? := hff 0 _ rfl
  have t1 : DataW.trod enc Try.prog w 0 (fun _ => true) true m 32 (((Value.agg cs).cells.toList.drop 1).take (Try.prog.cellsOf 32)) = ys[1]? := hff 1 _ rfl
  have t2 : DataW.trod enc Try.prog w 0 (fun _ => true) true m 45 (((Value.agg cs).cells.toList.drop 2).take (Try.prog.cellsOf 45)) = ys[2]? := hff 2 _ rfl
  rw [h1, List.getElem?_eq_getElem (show 0 < ys.length by omega)] at t0
  rw [h2, List.getElem?_eq_getElem (show 1 < ys.length by omega)] at t1
  rw [h16, List.getElem?_eq_getElem (show 2 < ys.length by omega)] at t2
  have hy' : d = .agg (ys.map (·.1)) := congrArg (·.1) hy
  subst hy'
  have s1 : Small Try.prog 32 (ys[1]'(by omega)).1 := hs.part Try.underlying47 (j := 1) rfl (by rw [List.getElem?_map, List.getElem?_eq_getElem (show 1 < ys.length by omega)]; rfl)
  obtain ⟨regs, er, hrl, hru⟩ := open_words16 t2
  obtain ⟨a0, e0, _, w0⟩ := DataW.trod_int Try.underlying29 t0
  obtain ⟨A, n, c, zs, e1, hr, hzl, hn, hc, hb, hw⟩ := open_nums Try.underlying32 Try.underlying29 (by kernel_rfl) (by kernel_rfl) t1 s1 (by_ := 8)
  refine ⟨a0, A, n, c, zs, regs, ?_, u64_of_wf w0, hr, hzl, hn, by omega, fun z hz => u64_of_wf (hw z hz), hrl, hru⟩
  obtain ⟨l⟩ := cs
  simp only [Value.cells] at hlen e0 e1 er
  congr 1
  match l, hlen, e0, e1, er with
  | c0 :: c1 :: rest, hlen, e0, e1, er =>
    simp only [List.drop_zero, List.drop_succ_cons, List.take_succ_cons, List.take_zero] at e0 e1 er
    rw [List.take_of_length_le (by simp at hlen; omega)] at er
    have e0 := one_cell e0
    have e1 := one_cell e1
    rw [e0, e1, er]
    rfl
end
end Go.Proofs.Ytndmhnmclogpcaa
