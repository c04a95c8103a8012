/- What a law's walk is told of an argument that came in: a slice of integers reads as a list, within the form's reach. No condition. -/
import Derived.Test.YtncpehhfjkncoaaRows
import Derived.Test.YtncpehhfjkncoaaWords
import Derived.Test.YtncpehhfjkncoaaPlainWord
import Derived.ProofKit
import Derived.OpenShut
import Derived.SizedLaws
set_option linter.unusedVariables false
set_option linter.unusedSimpArgs false
namespace Go.Proofs.Ytncpehhfjkncoaa
open Go.ChangeShapes Go.WideShapes Go.ChangeAt Go.RowKit

theorem lits_length (k : IntKind) {H : Type} (l : List Int) : (lits (H := H) k l).length = l.length := by simp [lits]

theorem open_reads {H : Type} {enc : TypeId × Value → H} {P : Program} {W : World} {base : Nat} {t e by_ : Nat} {k : IntKind} (ht : P.underlying t = some (.slice e)) (he : P.underlying e = some (.int k)) (hC : P.cellsOf e = 1) (hB : P.bytesOf e = by_)
    {v : Value} {d : DataW H} {p : List MemPlace} (hv : Value.okWide P W .any base t v) (h : DataW.Trod enc P W 0 (fun _ => true) true t v d p)
    {ts : List TypeId} {ds : List (DataW H)} {j : Nat} (hsz : (DataW.weightsEach P ts ds).all (· ≤ reachBytes) = true) (hts : ts[j]? = some t) (hds : ds[j]? = some d) :
    ∃ (A : Option Addr) (n c : Nat) (zs : List Int), v = .slice A n c ∧ Reads W W.heap.size 1 A n (zs.map (Value.int k)) ∧ zs.length = n ∧ n ≤ c ∧ c ≤ maxLen ∧ c * by_ ≤ 140737488351232 ∧ ∀ z ∈ zs, (Lit.int k z).wf = true := by
  obtain ⟨A, n, c, rfl⟩ := okWide_slice ht hv
  have lt : ∀ x ∈ p, x.block < W.heap.size := by obtain ⟨m, hm⟩ := h; exact DataW.trod_lt m _ _ _ hm
  obtain ⟨fuel, hf⟩ := h
  rcases open_ints ht he hC hf with ⟨hcs, _⟩ | ⟨x, l, c', zs, hcs, _, hl, hm, hz, hx, hcell, hwz⟩
  · simp [Value.cells] at hcs
    obtain ⟨rfl, rfl, rfl⟩ := hcs
    exact ⟨none, 0, 0, [], rfl, Reads.none_, rfl, Nat.le_refl _, by unfold maxLen; omega, by omega, by simp⟩
  · simp [Value.cells] at hcs
    obtain ⟨rfl, rfl, rfl⟩ := hcs
    simp only [if_true] at hz
    simp only [Prod.mk.injEq] at hx
    obtain ⟨rfl, rfl⟩ := hx
    have hr := sized_slice hsz hts hds ht
    rw [lits_length, lits_length, hB, List.length_take, List.length_drop, hz, Nat.min_eq_left hl, Nat.add_sub_cancel' hl] at hr
    refine ⟨_, _, _, zs.take n, rfl, ⟨by simp [hz, hl], fun hn => ⟨x, rfl, ?_, ?_⟩⟩, by simp [hz, hl], hl, hm, hr, fun z hz' => hwz z (List.mem_of_mem_take hz')⟩
    · exact lt (.cell x.block (x.off + 0)) (List.mem_map.2 ⟨0, List.mem_range.2 (by rw [hz]; omega), rfl⟩)
    · intro i u hu
      rw [List.getElem?_map, Option.map_eq_some_iff] at hu
      obtain ⟨y, hy, rfl⟩ := hu
      have hi : i < zs.length := by
        have := (List.getElem?_eq_some_iff.1 hy).1
        rw [List.length_take] at this; omega
      rw [hcell i hi]
      have hit : i < n := by
        have := (List.getElem?_eq_some_iff.1 hy).1
        rw [List.length_take] at this; omega
      rw [List.getElem?_take_of_lt hit] at hy
      simp [List.getD_eq_getElem?_getD, hy]
theorem u64_of_wf {a : Int} (h : (Lit.int .u64 a).wf = true) : U64 a := by
  have := bounds_u64 h
  unfold U64; omega
theorem lt_of_trod {H : Type} {enc : TypeId × Value → H} {P : Program} {W : World} {b : Nat} {sp : Nat → Bool} {hd : Bool} {t : TypeId} {v : Value} {d : DataW H} {p : List MemPlace} (h : DataW.Trod enc P W b sp hd t v d p) : ∀ x ∈ p, x.block < W.heap.size := by
  obtain ⟨m, hm⟩ := h; exact DataW.trod_lt m _ _ _ hm
theorem own : ownKnob Try.prog.godebug = none := by kernel_rfl
theorem laidOut : laidOutB Try.prog = true := by kernel_rfl
end Go.Proofs.Ytncpehhfjkncoaa
