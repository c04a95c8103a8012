/- Walks of ir's Next, and of the question whether a list of kinds holds one that is none. Conditions: the lists lie in memory. -/
import Derived.Test.YtncpehhfjkncoaaIrIs
set_option linter.unusedVariables false
set_option linter.unusedSimpArgs false
namespace Go.Proofs.Ytncpehhfjkncoaa
open Go.RowKit

def nextL (x : NodeD) : List Int := if x.op = 12 ∨ x.op = 14 ∨ x.op = 18 then [] else if x.op = 9 ∧ x.els ≠ x.next then [x.next, x.els] else if x.op < 1 ∨ 18 < x.op then [] else [x.next]
/-- a list answered: it lies somewhere, and holds these numbers -/
def Lst (w : World) (v : Value) (l : List Int) : Prop := ∃ A c, v = .slice A l.length c ∧ l.length ≤ c ∧ c ≤ maxLen ∧ Reads w w.heap.size 1 A l.length (l.map (Value.int .i64))
theorem Lst.nil (w : World) : Lst w (.slice none 0 0) [] := ⟨none, 0, rfl, Nat.le_refl _, by unfold maxLen; simp, Reads.none_⟩
theorem Lst.below {w w' : World} {v : Value} {l : List Int} (h : Lst w v l) (hb : Below w.heap.size w w') : Lst w' v l := by
  obtain ⟨A, c, h1, h2, h3, h4⟩ := h
  exact ⟨A, c, h1, h2, h3, (h4.below hb).more hb.size⟩
theorem Reads.newL (w : World) (t : TypeId) (l : List Value) : Reads (w.alloc (.cells l.toArray t)) (w.heap.size + 1) 1 (some ⟨w.heap.size, 0, none⟩) l.length l := by
  refine ⟨by simp, fun _ => ⟨_, rfl, by simp, fun j u hu => ?_⟩⟩
  have h := (Blk.new w t l.toArray).cell j
  rw [Addr.add_mid, Nat.zero_add, h, List.getElem?_toArray, hu]
theorem Lst.new (w : World) (t : TypeId) (l : List Int) (hl : l.length ≤ 100) {g n : Nat} {cs : Array Value} (hg : g = w.heap.size) (hn : n = l.length) (hc : cs = (l.map (Value.int .i64)).toArray) : Lst (w.alloc (.cells cs t)) (.slice (some ⟨g, 0, none⟩) n n) l := by
  subst hg hn hc
  refine ⟨_, _, rfl, Nat.le_refl _, by unfold maxLen; omega, ?_⟩
  have h := Reads.newL w t (l.map (Value.int .i64))
  rw [List.length_map] at h
  simpa using h
set_option maxRecDepth 100000 in
set_option maxHeartbeats 2000000 in
theorem next_any (w : World) (x : NodeD) (av : Value) :
    Calls Try.prog 22 #[.agg (ncells x av).toArray] w fun e w' => (∃ v, e = .returned v ∧ Lst w' v (nextL x)) ∧ Below w.heap.size w w' := by
  obtain ⟨op, byo, d, e, a, b, f, cell, imm, args, next, els⟩ := x
  have hP := Blk.new w 52 #[.int .u8 op, .int .u8 byo, .int .i64 d, .int .i64 e, .int .i64 a, .int .i64 b, .int .i64 f, .int .i64 cell, .int .u64 imm, av, .int .i64 next, .int .i64 els]
  have kp0 := Blk.cell hP 0
  have kp10 := Blk.cell hP 10
  have kp11 := Blk.cell hP 11
  simp only [List.getElem?_toArray, List.getElem?_cons_zero, List.getElem?_cons_succ] at kp0 kp10 kp11
  have hb := (Below.refl w.heap.size w).alloc (Nat.le_refl _) (.cells #[.int .u8 op, .int .u8 byo, .int .i64 d, .int .i64 e, .int .i64 a, .int .i64 b, .int .i64 f, .int .i64 cell, .int .u64 imm, av, .int .i64 next, .int .i64 els] 52)
  simp only [ncells]
  obtain ⟨N, hN⟩ : ∃ N, nextL ⟨op, byo, d, e, a, b, f, cell, imm, args, next, els⟩ = N := ⟨_, rfl⟩
  rw [hN]
  unfold nextL at hN
  simp only at hN
  by_cases e12 : op = 12 ∨ op = 14 ∨ op = 18
  · rw [if_pos e12] at hN
    subst hN
    have Hb := Lib.hid hb
    have HP := Lib.hid hP
    clear hP hb
    rcases e12 with rfl | rfl | rfl
    all_goals
      go_enter Try.func22, Try.ntmps22
      go_wp2_with fail
      go_ret
      exact ⟨⟨_, rfl, Lst.nil _⟩, Hb.out⟩
  · rw [if_neg e12] at hN
    have b12 : (op == 12) = false := by rw [beq_eq_false_iff_ne]; omega
    have b14 : (op == 14) = false := by rw [beq_eq_false_iff_ne]; omega
    have b18 : (op == 18) = false := by rw [beq_eq_false_iff_ne]; omega
    by_cases e9 : op = 9
    · subst e9
      by_cases en : els = next
      · have bn : (els != next) = false := by simp [en]
        rw [if_neg (fun h => h.2 en), if_neg (by omega)] at hN
        subst hN
        have Hb := Lib.hid hb
        have HP := Lib.hid hP
        have Hen := Lib.hid en
        have He12 := Lib.hid e12
        clear e12 en hP hb
        go_enter Try.func22, Try.ntmps22
        go_wp2_with fail
        go_ret
        exact ⟨⟨_, rfl, Lst.new _ _ [next] (by simp) (by simp) rfl rfl⟩, Hb.out.alloc Hb.out.size _⟩
      · have bn : (els != next) = true := by simp [en]
        rw [if_pos ⟨rfl, en⟩] at hN
        subst hN
        have Hb := Lib.hid hb
        have HP := Lib.hid hP
        have Hen := Lib.hid en
        have He12 := Lib.hid e12
        clear e12 en hP hb
        go_enter Try.func22, Try.ntmps22
        go_wp2_with fail
        go_ret
        exact ⟨⟨_, rfl, Lst.new _ _ [next, els] (by simp) (by simp) rfl rfl⟩, Hb.out.alloc Hb.out.size _⟩
    · have b9 : (op == 9) = false := by rw [beq_eq_false_iff_ne]; omega
      rw [if_neg (fun h => e9 h.1)] at hN
      have hcase : (op < 1 ∧ N = []) ∨ (¬ op < 1 ∧ 18 < op ∧ N = []) ∨ (¬ op < 1 ∧ ¬ 18 < op ∧ N = [next]) := by
        by_cases h1 : op < 1
        · rw [if_pos (.inl h1)] at hN; exact .inl ⟨h1, hN.symm⟩
        · by_cases h2 : 18 < op
          · rw [if_pos (.inr h2)] at hN; exact .inr (.inl ⟨h1, h2, hN.symm⟩)
          · rw [if_neg (by omega)] at hN; exact .inr (.inr ⟨h1, h2, hN.symm⟩)
      have Hb := Lib.hid hb
      have HP := Lib.hid hP
      have He12 := Lib.hid e12
      have He9 := Lib.hid e9
      have HN := Lib.hid hN
      clear hN e9 e12 hP hb
      rcases hcase with ⟨h1, rfl⟩ | ⟨h1, h2, rfl⟩ | ⟨h1, h2, rfl⟩
      · go_enter Try.func22, Try.ntmps22
        go_wp2_with fail
        go_ret
        exact ⟨⟨_, rfl, Lst.nil _⟩, Hb.out⟩
      · go_enter Try.func22, Try.ntmps22
        go_wp2_with fail
        go_ret
        exact ⟨⟨_, rfl, Lst.nil _⟩, Hb.out⟩
      · go_enter Try.func22, Try.ntmps22
        go_wp2_with fail
        go_ret
        exact ⟨⟨_, rfl, Lst.new _ _ [next] (by simp) (by simp) rfl rfl⟩, Hb.out.alloc Hb.out.size _⟩
set_option maxRecDepth 100000 in
set_option maxHeartbeats 1000000 in
theorem indexFunc_any (w : World) (D : Nat) (A : Option Addr) (m c : Nat) (ks : List Int) (hP : Reads w D 1 A m (ks.map (Value.int .u8))) (hm : ks.length = m) (hmc : m ≤ 140737488351232) :
    Calls Try.prog 50 #[.slice A m c, .func (.func 38) #[] #[]] w fun e w' => (∃ n : Int, e = .returned (.int .i64 n) ∧ (0 ≤ n ↔ ∃ k ∈ ks, 1 < k)) ∧ w = w' := by
  have HP := Lib.hid hP
  have Hm := Lib.hid hm
  clear hm hP
  go_enter Try.func50, Try.ntmps50
  go_wp2_with fail
  go_loopw [8] (fun i wq => ∃ j : Nat, j ≤ m ∧ i = .int .i64 j ∧ wq = w ∧ Hid (¬ ∃ k ∈ ks.take j, 1 < k)) (fun i _ => m - (intOf i).toNat)
  case atStart => exact ⟨0, by omega, rfl, rfl, (show ¬ ∃ k ∈ ks.take 0, 1 < k by simp)⟩
  case round =>
    obtain ⟨j, hj, rfl, hwr, hall⟩ := hrel
    subst hwr
    by_cases hjm : j < m
    · obtain ⟨ad, u0, hA, _, hu0, hce⟩ := HP.out.at_ hjm
      subst hA
      obtain ⟨p, hpj, rfl⟩ : ∃ p, ks[j]? = some p ∧ u0 = .int .u8 p := by
        rw [List.getElem?_map, Option.map_eq_some_iff] at hu0
        obtain ⟨x, h1, h2⟩ := hu0
        exact ⟨x, h1, h2.symm⟩
      have hmem := List.mem_of_getElem? hpj
      clear hu0
      by_cases hx : 1 < p
      · have hin : ∃ k ∈ ks, 1 < k := ⟨p, hmem, hx⟩
        have Hall := Lib.hid hall
        have Hpj := Lib.hid hpj
        have Hmem := Lib.hid hmem
        have Hin := Lib.hid hin
        clear hin hmem hpj hall
        go_wp2_with fail
        refine (ptr_any _ p).mono ?_
        rintro e w1 ⟨rfl, rfl⟩
        go_wp2_with fail
        go_ret
        exact ⟨⟨j, rfl, by simp [Hin.out]⟩, rfl⟩
      · have hs : ¬ ∃ k ∈ ks.take (j + 1), 1 < k := by
          rw [List.take_add_one, hpj]
          rintro ⟨k, hk, h1⟩
          simp only [Option.toList, List.mem_append, List.mem_singleton] at hk
          rcases hk with h | h
          · exact hall.out ⟨k, h, h1⟩
          · exact hx (h ▸ h1)
        have Hall := Lib.hid hall
        have Hpj := Lib.hid hpj
        have Hmem := Lib.hid hmem
        have Hs := Lib.hid hs
        clear hs hmem hpj hall
        go_wp2_with fail
        refine (ptr_any _ p).mono ?_
        rintro e w1 ⟨rfl, rfl⟩
        go_wp2_with fail
        exact ⟨⟨j + 1, by omega, by go_num, trivial, Lib.hid Hs.out⟩, by simp [intOf]; omega⟩
    · have hs : ¬ ∃ k ∈ ks, 1 < k := by
        rw [List.take_of_length_le (by rw [Hm.out]; omega)] at hall
        exact hall.out
      have Hs := Lib.hid hs
      have Hall := Lib.hid hall
      clear hall hs
      go_wp2_with fail
      go_ret
      exact ⟨⟨-1, rfl, by simp [Hs.out]⟩, rfl⟩
set_option maxRecDepth 100000 in
set_option maxHeartbeats 400000 in
theorem containsFunc_any (w : World) (D : Nat) (A : Option Addr) (m c : Nat) (ks : List Int) (hP : Reads w D 1 A m (ks.map (Value.int .u8))) (hm : ks.length = m) (hmc : m ≤ 140737488351232) :
    Calls Try.prog 37 #[.slice A m c, .func (.func 38) #[] #[]] w fun e w' => e = .returned (.bool (ks.any fun k => decide (1 < k))) ∧ w = w' := by
  have HP := Lib.hid hP
  have Hm := Lib.hid hm
  clear hm hP
  go_enter Try.func37, Try.ntmps37
  go_wp2_with fail
  refine (indexFunc_any w D A m c ks HP.out Hm.out hmc).mono ?_
  rintro e w1 ⟨⟨n, rfl, hn⟩, rfl⟩
  have hr : decide (0 ≤ n) = ks.any fun k => decide (1 < k) := by
    rw [Bool.eq_iff_iff, decide_eq_true_iff, hn, List.any_eq_true]
    simp
  have Hn := Lib.hid hn
  have Hr := Lib.hid hr
  clear hr hn
  go_wp2_with fail
  go_ret
  rw [← Hr.out]
  exact ⟨rfl, rfl⟩
end Go.Proofs.Ytncpehhfjkncoaa
