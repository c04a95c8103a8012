/- Walks of once and of the document's In, add. Conditions: the lists lie in memory. -/
import Derived.Test.YtopifdkkmchoeaaIrNext
import Derived.Test.YtopifdkkmchoeaaIrArgs
set_option linter.unusedVariables false
set_option linter.unusedSimpArgs false
namespace Go.Proofs.Ytopifdkkmchoeaa
open Go.RowKit

def addStep (o : List Int) (p : Int) : List Int := if 0 ≤ p ∧ p ∉ o then o ++ [p] else o
def onceL (l : List Int) : List Int := l.foldl addStep []
theorem once_more (l : List Int) (p : Int) : onceL (l ++ [p]) = addStep (onceL l) p := by simp [onceL, List.foldl_append]
theorem once_len (l : List Int) : (onceL l).length ≤ l.length := by
  have h : ∀ (l o : List Int), (l.foldl addStep o).length ≤ o.length + l.length := by
    intro l
    induction l with
    | nil => intro o; simp
    | cons p l ih =>
      intro o
      have h1 := ih (addStep o p)
      have h2 : (addStep o p).length ≤ o.length + 1 := by unfold addStep; split <;> simp
      simp only [List.foldl_cons, List.length_cons]
      omega
  have := h l []
  simpa [onceL] using this
theorem infoIntr : (Try.prog.info? 3).map (fun i => (i.zero, i.size, i.bytes)) = some (some (.int .i64 0), 1, 8) := by kernel_rfl
theorem Lst.of_own {w : World} {B : Nat} {v : Value} {l : List Int} (h : w.ownsRow B 3 1 v l.length (l.map (Value.int .i64))) : Lst w v l := by
  obtain ⟨A, c, rfl, h1, h2, h3⟩ := own_any h
  exact ⟨A, c, rfl, h1, h2, Reads.of_own h⟩
set_option maxRecDepth 100000 in
set_option maxHeartbeats 1000000 in
theorem in_any (w : World) (D : Nat) (A : Option Addr) (m c : Nat) (ps : List Int) (hP : Reads w D 1 A m (ps.map (Value.int .i64))) (hm : ps.length = m) (hmc : m ≤ 140737488351232) (x : Int) :
    Calls Try.prog 28 #[.slice A m c, .int .i64 x] w fun e w' => e = .returned (.bool (decide (x ∈ ps))) ∧ w = w' := by
  have HP := Lib.hid hP
  have Hm := Lib.hid hm
  clear hm hP
  go_enter Try.func28, Try.ntmps28
  go_wp2_with fail
  go_loopw [9] (fun i wq => ∃ j : Nat, j ≤ m ∧ i = .int .i64 j ∧ wq = w ∧ Hid (x ∉ ps.take j)) (fun i _ => m - (intOf i).toNat)
  case atStart => exact ⟨0, by omega, rfl, rfl, (show x ∉ ps.take 0 by simp)⟩
  case round =>
    obtain ⟨j, hj, rfl, hwr, hall⟩ := hrel
    subst hwr
    by_cases hjm : j < m
    · obtain ⟨ad, u0, hA, _, hu0, hce⟩ := HP.out.at_ hjm
      subst hA
      obtain ⟨p, hpj, rfl⟩ : ∃ p, ps[j]? = some p ∧ u0 = .int .i64 p := by
        rw [List.getElem?_map, Option.map_eq_some_iff] at hu0
        obtain ⟨x, h1, h2⟩ := hu0
        exact ⟨x, h1, h2.symm⟩
      have hmem := List.mem_of_getElem? hpj
      by_cases hx : x = p
      · have hb : (p == x) = true := by simp [hx]
        have hin : decide (x ∈ ps) = true := decide_eq_true (hx ▸ hmem)
        have Hall := Lib.hid hall
        have Hpj := Lib.hid hpj
        have Hmem := Lib.hid hmem
        have Hx := Lib.hid hx
        have Hin := Lib.hid hin
        clear hin hx hmem hpj hall
        clear hu0
        go_wp2_with fail
        go_ret
        rw [Hin.out]
        exact ⟨rfl, rfl⟩
      · have hb : (p == x) = false := by rw [beq_eq_false_iff_ne]; exact fun e => hx e.symm
        have hs : x ∉ ps.take (j + 1) := by
          rw [List.take_add_one, hpj]
          simp only [Option.toList, List.mem_append, List.mem_singleton]
          rintro (h | h)
          · exact hall.out h
          · exact hx h
        have Hall := Lib.hid hall
        have Hpj := Lib.hid hpj
        have Hmem := Lib.hid hmem
        have Hx := Lib.hid hx
        have Hs := Lib.hid hs
        clear hs hx hmem hpj hall
        clear hu0
        go_wp2_with fail
        exact ⟨⟨j + 1, by omega, by go_num, trivial, Lib.hid Hs.out⟩, by simp [intOf]; omega⟩
    · have hs : decide (x ∈ ps) = false := by
        rw [List.take_of_length_le (by rw [Hm.out]; omega)] at hall
        exact decide_eq_false hall.out
      have Hs := Lib.hid hs
      have Hall := Lib.hid hall
      clear hall hs
      go_wp2_with fail
      go_ret
      rw [Hs.out]
      exact ⟨rfl, rfl⟩
set_option maxRecDepth 100000 in
set_option maxHeartbeats 2000000 in
theorem once_any (w : World) (D : Nat) (hD : D ≤ w.heap.size) (A : Option Addr) (m c : Nat) (ps : List Int) (hP : Reads w D 1 A m (ps.map (Value.int .i64))) (hm : ps.length = m) (hmc : m * 8 ≤ 140737488351232) :
    Calls Try.prog 31 #[.slice A m c] w fun e w' => (∃ v, e = .returned v ∧ Lst w' v (onceL ps)) ∧ Below w.heap.size w w' := by
  obtain ⟨i0, hi0, hz0, hz1, hz2⟩ := info_parts infoIntr
  have HP := Lib.hid hP
  have Hm := Lib.hid hm
  clear hm hP
  go_enter Try.func31, Try.ntmps31
  go_wp2_with fail
  go_loopw [3, 8] (fun v i wq => ∃ j k : Nat, j ≤ m ∧ k ≤ j ∧ i = .int .i64 j ∧ Hid ((onceL (ps.take j)).length = k) ∧ wq.ownsRow w.heap.size 3 1 v k ((onceL (ps.take j)).map (Value.int .i64)) ∧ Below w.heap.size w wq) (fun _ i _ => m - (intOf i).toNat)
  case atStart => exact ⟨0, 0, by omega, by omega, rfl, Lib.hid rfl, World.ownsRow_nil _ _ _ _, Below.refl _ _⟩
  case round =>
    obtain ⟨j, k, hj, hk, rfl, hkl, hown, hbq⟩ := hrel
    by_cases hjm : j < m
    · obtain ⟨ad, u0, hA, _, hu0, hce⟩ := (HP.out.below (hbq.mono hD)).at_ hjm
      subst hA
      obtain ⟨p, hpj, rfl⟩ : ∃ p, ps[j]? = some p ∧ u0 = .int .i64 p := by
        rw [List.getElem?_map, Option.map_eq_some_iff] at hu0
        obtain ⟨x, h1, h2⟩ := hu0
        exact ⟨x, h1, h2.symm⟩
      have htake : ps.take (j + 1) = ps.take j ++ [p] := by rw [List.take_add_one, hpj]; rfl
      have hmore := once_more (ps.take j) p
      rw [← htake] at hmore
      obtain ⟨O, hO⟩ : ∃ O, onceL (ps.take j) = O := ⟨_, rfl⟩
      rw [hO] at hkl hown hmore
      obtain ⟨OA, oc, rfl, hko, hoc, hOr⟩ := own_any hown
      clear hu0
      by_cases hp0 : 0 ≤ p
      · obtain ⟨bc, hbc⟩ : ∃ bc, decide (p ∈ O) = bc := ⟨_, rfl⟩
        cases bc
        · have hnew : onceL (ps.take (j + 1)) = O ++ [p] := by
            rw [hmore, addStep, if_pos ⟨hp0, of_decide_eq_false hbc⟩]
          have hsq := hbq.size
          have Hkl := Lib.hid hkl
          have Hown := Lib.hid hown
          have Hmore := Lib.hid hmore
          have HO := Lib.hid hO
          have Htake := Lib.hid htake
          have Hpj := Lib.hid hpj
          have Hbc := Lib.hid hbc
          have Hnew := Lib.hid hnew
          have HOr := Lib.hid hOr
          have Hbq := Lib.hid hbq
          clear hbq hOr hnew hbc hpj htake hO hmore hown hkl
          go_wp2_with fail
          refine (contains_any wr wr.heap.size OA k oc O (Reads.of_own Hown.out) Hkl.out (by omega) p).mono ?_
          rintro e w1 ⟨rfl, rfl⟩
          rw [Hbc.out]
          go_wp2_with (first
            | (at_builtin
               refine wpList_append_any _ rfl (.tmp 20) (.tmp 22) _ rfl w.heap.size 3 i0 _ 1 8 Try.underlying22 hi0 hz0 hz1 hz2 rfl (by omega) _ k _ rfl (Hown.out.alloc _) (wr.heap.size + 1) (some ⟨wr.heap.size, 0, none⟩) 1 1 [.int .i64 p] rfl (Reads.new1 _ _ _) ?c1 ?c2 ?c3 ?c4 ?_
               case c1 => intro u hu; simp only [List.mem_singleton] at hu; subst hu; rfl
               case c2 => simp only [maxLen]; omega
               case c3 => omega
               case c4 => simp; omega
               intro v9 w9 hown9 hg9 hat9))
          have hb9 := (Hbq.out.alloc (by omega) (.cells #[.int .i64 p] 3)).grown hg9 (by simp; omega) (fun g e => (Hown.out.lt g e).1)
          refine ⟨⟨j + 1, k + 1, by omega, by omega, by go_num, ?_, ?_, hb9⟩, by simp [intOf]; omega⟩
          · exact Lib.hid (by rw [Hnew.out, List.length_append, Hkl.out]; rfl)
          · rw [Hnew.out, List.map_append]; exact hown9
        · have hnew : onceL (ps.take (j + 1)) = O := by
            rw [hmore, addStep, if_neg (fun h => h.2 (of_decide_eq_true hbc))]
          have Hkl := Lib.hid hkl
          have Hown := Lib.hid hown
          have Hmore := Lib.hid hmore
          have HO := Lib.hid hO
          have Htake := Lib.hid htake
          have Hpj := Lib.hid hpj
          have Hbc := Lib.hid hbc
          have Hnew := Lib.hid hnew
          have HOr := Lib.hid hOr
          have Hbq := Lib.hid hbq
          clear hbq hOr hnew hbc hpj htake hO hmore hown hkl
          go_wp2_with fail
          refine (contains_any wr wr.heap.size OA k oc O (Reads.of_own Hown.out) Hkl.out (by omega) p).mono ?_
          rintro e w1 ⟨rfl, rfl⟩
          rw [Hbc.out]
          go_wp2_with fail
          refine ⟨⟨j + 1, k, by omega, by omega, by go_num, ?_, ?_, Hbq.out⟩, by simp [intOf]; omega⟩
          · exact Lib.hid (by rw [Hnew.out, Hkl.out])
          · rw [Hnew.out]; exact Hown.out
      · have hnew : onceL (ps.take (j + 1)) = O := by
          rw [hmore, addStep, if_neg (fun h => hp0 h.1)]
        have Hkl := Lib.hid hkl
        have Hown := Lib.hid hown
        have Hmore := Lib.hid hmore
        have HO := Lib.hid hO
        have Htake := Lib.hid htake
        have Hpj := Lib.hid hpj
        have Hnew := Lib.hid hnew
        have HOr := Lib.hid hOr
        have Hbq := Lib.hid hbq
        clear hbq hOr hnew hpj htake hO hmore hown hkl
        go_wp2_with fail
        refine ⟨⟨j + 1, k, by omega, by omega, by go_num, ?_, ?_, Hbq.out⟩, by simp [intOf]; omega⟩
        · exact Lib.hid (by rw [Hnew.out, Hkl.out])
        · rw [Hnew.out]; exact Hown.out
    · have hfin : onceL (ps.take j) = onceL ps := by rw [List.take_of_length_le (by rw [Hm.out]; omega)]
      rw [hfin] at hown hkl
      have hkl' := hkl.out
      subst hkl'
      have hl := Lst.of_own hown
      have Hl := Lib.hid hl
      have Hkl := Lib.hid hkl
      have Hown := Lib.hid hown
      have Hbq := Lib.hid hbq
      have Hfin := Lib.hid hfin
      clear hfin hbq hown hkl hl
      go_wp2_with fail
      go_ret
      exact ⟨⟨_, rfl, Hl.out⟩, Hbq.out⟩
set_option maxRecDepth 100000 in
set_option maxHeartbeats 2000000 in
theorem add_any (w : World) (D : Nat) (hD : D ≤ w.heap.size) (A : Option Addr) (m c : Nat) (ps : List Int) (hP : Reads w D 1 A m (ps.map (Value.int .i64))) (hm : ps.length = m) (hmc : m * 8 ≤ 140737488351232) :
    Calls Try.prog 43 #[.slice none 0 0, .slice A m c] w fun e w' => (∃ v, e = .returned v ∧ Lst w' v (onceL ps)) ∧ Below w.heap.size w w' := by
  obtain ⟨i0, hi0, hz0, hz1, hz2⟩ := info_parts infoIntr
  have HP := Lib.hid hP
  have Hm := Lib.hid hm
  clear hm hP
  go_enter Try.func43, Try.ntmps43
  go_wp2_with fail
  go_loopw [0, 9] (fun v i wq => ∃ j k : Nat, j ≤ m ∧ k ≤ j ∧ i = .int .i64 j ∧ Hid ((onceL (ps.take j)).length = k) ∧ wq.ownsRow w.heap.size 3 1 v k ((onceL (ps.take j)).map (Value.int .i64)) ∧ Below w.heap.size w wq) (fun _ i _ => m - (intOf i).toNat)
  case atStart => exact ⟨0, 0, by omega, by omega, rfl, Lib.hid rfl, World.ownsRow_nil _ _ _ _, Below.refl _ _⟩
  case round =>
    obtain ⟨j, k, hj, hk, rfl, hkl, hown, hbq⟩ := hrel
    by_cases hjm : j < m
    · obtain ⟨ad, u0, hA, _, hu0, hce⟩ := (HP.out.below (hbq.mono hD)).at_ hjm
      subst hA
      obtain ⟨p, hpj, rfl⟩ : ∃ p, ps[j]? = some p ∧ u0 = .int .i64 p := by
        rw [List.getElem?_map, Option.map_eq_some_iff] at hu0
        obtain ⟨x, h1, h2⟩ := hu0
        exact ⟨x, h1, h2.symm⟩
      have htake : ps.take (j + 1) = ps.take j ++ [p] := by rw [List.take_add_one, hpj]; rfl
      have hmore := once_more (ps.take j) p
      rw [← htake] at hmore
      obtain ⟨O, hO⟩ : ∃ O, onceL (ps.take j) = O := ⟨_, rfl⟩
      rw [hO] at hkl hown hmore
      obtain ⟨OA, oc, rfl, hko, hoc, hOr⟩ := own_any hown
      clear hu0
      by_cases hp0 : 0 ≤ p
      · obtain ⟨bc, hbc⟩ : ∃ bc, decide (p ∈ O) = bc := ⟨_, rfl⟩
        cases bc
        · have hnew : onceL (ps.take (j + 1)) = O ++ [p] := by
            rw [hmore, addStep, if_pos ⟨hp0, of_decide_eq_false hbc⟩]
          have hsq := hbq.size
          have Hkl := Lib.hid hkl
          have Hown := Lib.hid hown
          have Hmore := Lib.hid hmore
          have HO := Lib.hid hO
          have Htake := Lib.hid htake
          have Hpj := Lib.hid hpj
          have Hbc := Lib.hid hbc
          have Hnew := Lib.hid hnew
          have HOr := Lib.hid hOr
          have Hbq := Lib.hid hbq
          clear hbq hOr hnew hbc hpj htake hO hmore hown hkl
          go_wp2_with fail
          refine (in_any wr wr.heap.size OA k oc O (Reads.of_own Hown.out) Hkl.out (by omega) p).mono ?_
          rintro e w1 ⟨rfl, rfl⟩
          rw [Hbc.out]
          go_wp2_with (first
            | (at_builtin
               refine wpList_append_any _ rfl (.tmp 21) (.tmp 23) _ rfl w.heap.size 3 i0 _ 1 8 Try.underlying22 hi0 hz0 hz1 hz2 rfl (by omega) _ k _ rfl (Hown.out.alloc _) (wr.heap.size + 1) (some ⟨wr.heap.size, 0, none⟩) 1 1 [.int .i64 p] rfl (Reads.new1 _ _ _) ?c1 ?c2 ?c3 ?c4 ?_
               case c1 => intro u hu; simp only [List.mem_singleton] at hu; subst hu; rfl
               case c2 => simp only [maxLen]; omega
               case c3 => omega
               case c4 => simp; omega
               intro v9 w9 hown9 hg9 hat9))
          have hb9 := (Hbq.out.alloc (by omega) (.cells #[.int .i64 p] 3)).grown hg9 (by simp; omega) (fun g e => (Hown.out.lt g e).1)
          refine ⟨⟨j + 1, k + 1, by omega, by omega, by go_num, ?_, ?_, hb9⟩, by simp [intOf]; omega⟩
          · exact Lib.hid (by rw [Hnew.out, List.length_append, Hkl.out]; rfl)
          · rw [Hnew.out, List.map_append]; exact hown9
        · have hnew : onceL (ps.take (j + 1)) = O := by
            rw [hmore, addStep, if_neg (fun h => h.2 (of_decide_eq_true hbc))]
          have Hkl := Lib.hid hkl
          have Hown := Lib.hid hown
          have Hmore := Lib.hid hmore
          have HO := Lib.hid hO
          have Htake := Lib.hid htake
          have Hpj := Lib.hid hpj
          have Hbc := Lib.hid hbc
          have Hnew := Lib.hid hnew
          have HOr := Lib.hid hOr
          have Hbq := Lib.hid hbq
          clear hbq hOr hnew hbc hpj htake hO hmore hown hkl
          go_wp2_with fail
          refine (in_any wr wr.heap.size OA k oc O (Reads.of_own Hown.out) Hkl.out (by omega) p).mono ?_
          rintro e w1 ⟨rfl, rfl⟩
          rw [Hbc.out]
          go_wp2_with fail
          refine ⟨⟨j + 1, k, by omega, by omega, by go_num, ?_, ?_, Hbq.out⟩, by simp [intOf]; omega⟩
          · exact Lib.hid (by rw [Hnew.out, Hkl.out])
          · rw [Hnew.out]; exact Hown.out
      · have hnew : onceL (ps.take (j + 1)) = O := by
          rw [hmore, addStep, if_neg (fun h => hp0 h.1)]
        have Hkl := Lib.hid hkl
        have Hown := Lib.hid hown
        have Hmore := Lib.hid hmore
        have HO := Lib.hid hO
        have Htake := Lib.hid htake
        have Hpj := Lib.hid hpj
        have Hnew := Lib.hid hnew
        have HOr := Lib.hid hOr
        have Hbq := Lib.hid hbq
        clear hbq hOr hnew hpj htake hO hmore hown hkl
        go_wp2_with fail
        refine ⟨⟨j + 1, k, by omega, by omega, by go_num, ?_, ?_, Hbq.out⟩, by simp [intOf]; omega⟩
        · exact Lib.hid (by rw [Hnew.out, Hkl.out])
        · rw [Hnew.out]; exact Hown.out
    · have hfin : onceL (ps.take j) = onceL ps := by rw [List.take_of_length_le (by rw [Hm.out]; omega)]
      rw [hfin] at hown hkl
      have hkl' := hkl.out
      subst hkl'
      have hl := Lst.of_own hown
      have Hl := Lib.hid hl
      have Hkl := Lib.hid hkl
      have Hown := Lib.hid hown
      have Hbq := Lib.hid hbq
      have Hfin := Lib.hid hfin
      clear hfin hbq hown hkl hl
      go_wp2_with fail
      go_ret
      exact ⟨⟨_, rfl, Hl.out⟩, Hbq.out⟩
end Go.Proofs.Ytopifdkkmchoeaa
