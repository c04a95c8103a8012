/- Walks of once and of the document's In, add. Conditions: the lists lie in memory. -/
import Derived.Test.YtncpehhfjkncoaaIrNext
import Derived.Test.YtncpehhfjkncoaaIrArgs
set_option linter.unusedVariables false
set_option linter.unusedSimpArgs false
namespace Go.Proofs.Ytncpehhfjkncoaa
open Go.RowKit

def addStep (o : List Int) (p : Int) : List Int := if 0 ≤ p ∧ p ∉ o then o ++ [p] else o
def onceL (l : List Int) : List Int := l.foldl addStep []
theorem once_more (l : List Int) (p : Int) : onceL (l ++ [p]) = addStep (onceL l) p := by simp [onceL, List.foldl_append]
theorem once_len (l : List Int) : (onceL l).length ≤ l.length := by
  have h : ∀ (l o : List Int), (l.foldl addStep o).length ≤ o.length + l.length := by
    intro l
    induction l with
    | nil => intro o; simp
    | cons p l ih =>
      intro o
      have h1 := ih (addStep o p)
      have h2 : (addStep o p).length ≤ o.length + 1 := by unfold addStep; split <;> simp
      simp only [List.foldl_cons, List.length_cons]
      omega
  have := h l []
  simpa [onceL] using this
theorem infoIntr : (Try.prog.info? 3).map (fun i => (i.zero, i.size, i.bytes)) = some (some (.int .i64 0), 1, 8) := by kernel_rfl
theorem Lst.of_own {w : World} {B : Nat} {v : Value} {l : List Int} (h : w.ownsRow B 3 1 v l.length (l.map (Value.int .i64))) : Lst w v l := by
  obtain ⟨A, c, rfl, h1, h2, h3⟩ := own_any h
  exact ⟨A, c, rfl, h1, h2, Reads.of_own h⟩
set_option maxRecDepth 100000 in
set_option maxHeartbeats 1000000 in
theorem in_any (w : World) (D : Nat) (A : Option Addr) (m c : Nat) (ps : List Int) (hP : Reads w D 1 A m (ps.map (Value.int .i64))) (hm : ps.length = m) (hmc : m ≤ 140737488351232) (x : Int) :
    Calls Try.prog 33 #[.slice A m c, .int .i64 x] w fun e w' => e = .returned (.bool (decide (x ∈ ps))) ∧ w = w' := by
  have HP := Lib.hid hP
  have Hm := Lib.hid hm
  clear hm hP
  go_enter Try.func33, Try.ntmps33
  go_wp2_with fail
  go_loopw [9] (fun i wq => ∃ j : Nat, j ≤ m ∧ i = .int .i64 j ∧ wq = w ∧ Hid (x ∉ ps.take j)) (fun i _ => m - (intOf i).toNat)
  case atStart => exact ⟨0, by omega, rfl, rfl, (show x ∉ ps.take 0 by simp)⟩
  case round =>
    obtain ⟨j, hj, rfl, hwr, hall⟩ := hrel
    subst hwr
    by_cases hjm : j < m
    · obtain ⟨ad, u0, hA, _, hu0, hce⟩ := HP.out.at_ hjm
      subst hA
      obtain ⟨p, hpj, rfl⟩ : ∃ p, ps[j]? = some p ∧ u0 = .int .i64 p := by
        rw [List.getElem?_map, Option.map_eq_some_iff] at hu0
        obtain ⟨x, h1, h2⟩ := hu0
        exact ⟨x, h1, h2.symm⟩
      have hmem := List.mem_of_getElem? hpj
      by_cases hx : x = p
      · have hb : (p == x) = true := by simp [hx]
        have hin : decide (x ∈ ps) = true := decide_eq_true (hx ▸ hmem)
        have Hall := Lib.hid hall
        have Hpj := Lib.hid hpj
        have Hmem := Lib.hid hmem
        have Hx := Lib.hid hx
        have Hin := Lib.hid hin
        clear hin hx hmem hpj hall
        clear hu0
        go_wp2_with fail
        go_ret
        rw [Hin.out]
        exact ⟨rfl, rfl⟩
      · have hb : (p == x) = false := by rw [beq_eq_false_iff_ne]; exact fun e => hx e.symm
        have hs : x ∉ ps.take (j + 1) := by
          rw [List.take_add_one, hpj]
          simp only [Option.toList, List.mem_append, List.mem_singleton]
          rintro (h | h)
          · exact hall.out h
          · exact hx h
        have Hall := Lib.hid hall
        have Hpj := Lib.hid hpj
        have Hmem := Lib.hid hmem
        have Hx := Lib.hid hx
        have Hs := Lib.hid hs
        clear hs hx hmem hpj hall
        clear hu0
        go_wp2_with fail
        exact ⟨⟨j + 1, by omega, by go_num, trivial, Lib.hid Hs.out⟩, by simp [intOf]; omega⟩
    · have hs : decide (x ∈ ps) = false := by
        rw [List.take_of_length_le (by rw [Hm.out]; omega)] at hall
        exact decide_eq_false hall.out
      have Hs := Lib.hid hs
      have Hall := Lib.hid hall
      clear hall hs
      go_wp2_with fail
      go_ret
      rw [Hs.out]
      exact ⟨rfl, rfl⟩
end Go.Proofs.Ytncpehhfjkncoaa
