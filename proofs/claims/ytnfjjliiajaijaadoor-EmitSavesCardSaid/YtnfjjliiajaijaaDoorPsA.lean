/- What the second law needs besides: in_any, add_any, refwrites_any. No condition. -/
import Derived.Test.YtnfjjliiajaijaaDoorPkAC
import Derived.Test.YtnfjjliiajaijaaDoorPkAA
import Derived.Test.YtnfjjliiajaijaaDoorPkAB
import Derived.Test.YtnfjjliiajaijaaDoorPkAD
set_option linter.unusedVariables false
set_option linter.unusedSimpArgs false
set_option maxRecDepth 100000
set_option maxHeartbeats 10000000
namespace Go.Proofs.YtnfjjliiajaijaaDoor
open Go.RowKit
theorem in_any (w : World) (D : Nat) (A : Option Addr) (m c : Nat) (ps : List Int) (hP : Reads w D 1 A m (ps.map (Value.int .i64))) (hm : ps.length = m) (hmc : m ≤ 140737488351232) (x : Int) :
  Calls Tryd.prog 13 #[.slice A m c, .int .i64 x] w fun e w' => e = .returned (.bool (decide (x ∈ ps))) ∧ w = w' := by
 obtain ⟨HP, Hm⟩ := hd2 hP hm
 clear hm hP
 go_enter Tryd.func13, Tryd.ntmps13
 go_wp2_with fail
 go_loopw [9] (fun i wq => ∃ j : Nat, j ≤ m ∧ i = .int .i64 j ∧ wq = w ∧ Hid (x ∉ ps.take j)) (fun i _ => m - (intOf i).toNat)
 case atStart => exact ⟨0, by omega, rfl, rfl, (show x ∉ ps.take 0 by simp)⟩
 case round =>
  obtain ⟨j, hj, rfl, hwr, hall⟩ := hrel
  subst hwr
  by_cases hjm : j < m
  ·obtain ⟨ad, u0, hA, _, hu0, hce⟩ := HP.out.at_ hjm
   subst hA
   obtain ⟨p, hpj, rfl⟩ : ∃ p, ps[j]? = some p ∧ u0 = .int .i64 p := by
    rw [List.getElem?_map, Option.map_eq_some_iff] at hu0
    obtain ⟨x, h1, h2⟩ := hu0
    exact ⟨x, h1, h2.symm⟩
   have hmem := List.mem_of_getElem? hpj
   by_cases hx : x = p
   ·have hb : (p == x) = true := by simp [hx]
    have hin : decide (x ∈ ps) = true := decide_eq_true (hx ▸ hmem)
    obtain ⟨Hall, Hpj, Hmem, Hx, Hin⟩ := hd5 hall hpj hmem hx hin
    clear hin hx hmem hpj hall
    clear hu0
    go_wp2_with fail
    go_ret
    rw [Hin.out]
    exact ⟨rfl, rfl⟩
   ·have hb : (p == x) = false := by rw [beq_eq_false_iff_ne]; exact fun e => hx e.symm
    have hs : x ∉ ps.take (j + 1) := by
     rw [List.take_add_one, hpj]
     simp only [Option.toList, List.mem_append, List.mem_singleton]
     rintro (h | h)
     ·exact hall.out h
     ·exact hx h
    obtain ⟨Hall, Hpj, Hmem, Hx, Hs⟩ := hd5 hall hpj hmem hx hs
    clear hs hx hmem hpj hall
    clear hu0
    go_wp2_with fail
    exact ⟨⟨j + 1, by omega, by go_num, trivial, Lib.hid Hs.out⟩, by simp [intOf]; omega⟩
  ·have hs : decide (x ∈ ps) = false := by
    rw [List.take_of_length_le (by rw [Hm.out]; omega)] at hall
    exact decide_eq_false hall.out
   obtain ⟨Hs, Hall⟩ := hd2 hs hall
   clear hall hs
   go_wp2_with fail
   go_ret
   rw [Hs.out]
   exact ⟨rfl, rfl⟩
theorem add_any (w : World) (D : Nat) (hD : D ≤ w.heap.size) (A : Option Addr) (m c : Nat) (ps : List Int) (hP : Reads w D 1 A m (ps.map (Value.int .i64))) (hm : ps.length = m) (hmc : m * 8 ≤ 140737488351232) :
  Calls Tryd.prog 31 #[.slice none 0 0, .slice A m c] w fun e w' => (∃ v, e = .returned v ∧ Lst w' v (onceL ps)) ∧ Below w.heap.size w w' := by
 obtain ⟨i0, hi0, hz0, hz1, hz2⟩ := info_parts infoIntr
 obtain ⟨HP, Hm⟩ := hd2 hP hm
 clear hm hP
 go_enter Tryd.func31, Tryd.ntmps31
 go_wp2_with fail
 go_loopw [0, 9] (fun v i wq => ∃ j k : Nat, j ≤ m ∧ k ≤ j ∧ i = .int .i64 j ∧ Hid ((onceL (ps.take j)).length = k) ∧ wq.ownsRow w.heap.size 3 1 v k ((onceL (ps.take j)).map (Value.int .i64)) ∧ Below w.heap.size w wq) (fun _ i _ => m - (intOf i).toNat)
 case atStart => exact ⟨0, 0, by omega, by omega, rfl, Lib.hid rfl, World.ownsRow_nil _ _ _ _, Below.refl _ _⟩
 case round =>
  obtain ⟨j, k, hj, hk, rfl, hkl, hown, hbq⟩ := hrel
  by_cases hjm : j < m
  ·obtain ⟨ad, u0, hA, _, hu0, hce⟩ := (HP.out.below (hbq.mono hD)).at_ hjm
   subst hA
   obtain ⟨p, hpj, rfl⟩ : ∃ p, ps[j]? = some p ∧ u0 = .int .i64 p := by
    rw [List.getElem?_map, Option.map_eq_some_iff] at hu0
    obtain ⟨x, h1, h2⟩ := hu0
    exact ⟨x, h1, h2.symm⟩
   have htake : ps.take (j + 1) = ps.take j ++ [p] := by rw [List.take_add_one, hpj]; rfl
   have hmore := once_more (ps.take j) p
   rw [← htake] at hmore
   obtain ⟨O, hO⟩ : ∃ O, onceL (ps.take j) = O := ⟨_, rfl⟩
   rw [hO] at hkl hown hmore
   obtain ⟨OA, oc, rfl, hko, hoc, hOr⟩ := own_any hown
   clear hu0
   by_cases hp0 : 0 ≤ p
   ·obtain ⟨bc, hbc⟩ : ∃ bc, decide (p ∈ O) = bc := ⟨_, rfl⟩
    cases bc
    ·have hnew : onceL (ps.take (j + 1)) = O ++ [p] := by
      rw [hmore, addStep, if_pos ⟨hp0, of_decide_eq_false hbc⟩]
     have hsq := hbq.size
     obtain ⟨Hkl, Hown, Hmore, HO, Htake, Hpj, Hbc, Hnew⟩ := hd8 hkl hown hmore hO htake hpj hbc hnew
     obtain ⟨HOr, Hbq⟩ := hd2 hOr hbq
     clear hbq hOr hnew hbc hpj htake hO hmore hown hkl
     go_wp2_with fail
     refine (in_any wr wr.heap.size OA k oc O (Reads.of_own Hown.out) Hkl.out (by omega) p).mono ?_
     rintro e w1 ⟨rfl, rfl⟩
     rw [Hbc.out]
     go_wp2_with (first
      | (at_builtin
         refine wpList_append_any _ rfl (.tmp 21) (.tmp 23) _ rfl w.heap.size 3 i0 _ 1 8 Tryd.underlying40 hi0 hz0 hz1 hz2 rfl (by omega) _ k _ rfl (Hown.out.alloc _) (wr.heap.size + 1) (some ⟨wr.heap.size, 0, none⟩) 1 1 [.int .i64 p] rfl (Reads.new1 _ _ _) ?c1 ?c2 ?c3 ?c4 ?_
         case c1 => intro u hu; simp only [List.mem_singleton] at hu; subst hu; rfl
         case c2 => simp only [maxLen]; omega
         case c3 => omega
         case c4 => simp; omega
         intro v9 w9 hown9 hg9 hat9))
     have hb9 := (Hbq.out.alloc (by omega) (.cells #[.int .i64 p] 3)).grown hg9 (by simp; omega) (fun g e => (Hown.out.lt g e).1)
     refine ⟨⟨j + 1, k + 1, by omega, by omega, by go_num, ?_, ?_, hb9⟩, by simp [intOf]; omega⟩
     ·exact Lib.hid (by rw [Hnew.out, List.length_append, Hkl.out]; rfl)
     ·rw [Hnew.out, List.map_append]; exact hown9
    ·have hnew : onceL (ps.take (j + 1)) = O := by
      rw [hmore, addStep, if_neg (fun h => h.2 (of_decide_eq_true hbc))]
     obtain ⟨Hkl, Hown, Hmore, HO, Htake, Hpj, Hbc, Hnew⟩ := hd8 hkl hown hmore hO htake hpj hbc hnew
     obtain ⟨HOr, Hbq⟩ := hd2 hOr hbq
     clear hbq hOr hnew hbc hpj htake hO hmore hown hkl
     go_wp2_with fail
     refine (in_any wr wr.heap.size OA k oc O (Reads.of_own Hown.out) Hkl.out (by omega) p).mono ?_
     rintro e w1 ⟨rfl, rfl⟩
     rw [Hbc.out]
     go_wp2_with fail
     refine ⟨⟨j + 1, k, by omega, by omega, by go_num, ?_, ?_, Hbq.out⟩, by simp [intOf]; omega⟩
     ·exact Lib.hid (by rw [Hnew.out, Hkl.out])
     ·rw [Hnew.out]; exact Hown.out
   ·have hnew : onceL (ps.take (j + 1)) = O := by
     rw [hmore, addStep, if_neg (fun h => hp0 h.1)]
    obtain ⟨Hkl, Hown, Hmore, HO, Htake, Hpj, Hnew, HOr⟩ := hd8 hkl hown hmore hO htake hpj hnew hOr
    have Hbq := Lib.hid hbq
    clear hbq hOr hnew hpj htake hO hmore hown hkl
    go_wp2_with fail
    refine ⟨⟨j + 1, k, by omega, by omega, by go_num, ?_, ?_, Hbq.out⟩, by simp [intOf]; omega⟩
    ·exact Lib.hid (by rw [Hnew.out, Hkl.out])
    ·rw [Hnew.out]; exact Hown.out
  ·have hfin : onceL (ps.take j) = onceL ps := by rw [List.take_of_length_le (by rw [Hm.out]; omega)]
   rw [hfin] at hown hkl
   have hkl' := hkl.out
   subst hkl'
   have hl := Lst.of_own hown
   obtain ⟨Hl, Hkl, Hown, Hbq, Hfin⟩ := hd5 hl hkl hown hbq hfin
   clear hfin hbq hown hkl hl
   go_wp2_with fail
   go_ret
   exact ⟨⟨_, rfl, Hl.out⟩, Hbq.out⟩
theorem refwrites_any (w : World) (x : NodeD) (av : Value) :
  Calls Tryd.prog 14 #[.agg (ncells x av).toArray] w fun e w' => (∃ v, e = .returned v ∧ Lst w' v (writesL x)) ∧ Below w.heap.size w w' := by
 obtain ⟨N, hN⟩ : ∃ N, writesL x = N := ⟨_, rfl⟩
 rw [hN]
 unfold writesL at hN
 obtain ⟨op, byo, d, e_, a, b, f, cell, imm, args, next, els⟩ := x
 simp only at hN
 simp only [ncells]
 obtain ⟨G, hG⟩ : ∃ G, G = w.heap.size := ⟨_, rfl⟩
 have hP := Blk.new w 55 #[.int .u8 op, .int .u8 byo, .int .i64 d, .int .i64 e_, .int .i64 a, .int .i64 b, .int .i64 f, .int .i64 cell, .int .u64 imm, av, .int .i64 next, .int .i64 els]
 have hb := (Below.refl w.heap.size w).alloc (Nat.le_refl _) (.cells #[.int .u8 op, .int .u8 byo, .int .i64 d, .int .i64 e_, .int .i64 a, .int .i64 b, .int .i64 f, .int .i64 cell, .int .u64 imm, av, .int .i64 next, .int .i64 els] 55)
 rw [← hG] at hP
 have kp0 := Blk.cell hP 0
 have kp2 := Blk.cell hP 2
 have kp3 := Blk.cell hP 3
 simp only [List.getElem?_toArray, List.getElem?_cons_zero, List.getElem?_cons_succ] at kp0 kp2 kp3
 obtain ⟨V, hV⟩ : ∃ V, V = w.alloc (.cells #[.int .u8 op, .int .u8 byo, .int .i64 d, .int .i64 e_, .int .i64 a, .int .i64 b, .int .i64 f, .int .i64 cell, .int .u64 imm, av, .int .i64 next, .int .i64 els] 55) := ⟨_, rfl⟩
 rw [← hV] at hb hP kp0 kp2 kp3
 obtain ⟨Hb, HP, HV, HG⟩ := hd4 hb hP hV hG
 clear hG hV hP hb
 by_cases e1 : op = 1 ∨ op = 2 ∨ op = 3 ∨ op = 4 ∨ op = 6 ∨ op = 7 ∨ op = 11 ∨ op = 16
 ·rw [if_pos e1] at hN
  subst hN
  rcases e1 with e | e | e | e | e | e | e | e
  all_goals
   subst e
   go_enter Tryd.func14, Tryd.ntmps14
   go_upto_region 1 with fail
   rw [← HV.out, ← HG.out]
   go_wp2_with fail
   refine (add_any _ (V.heap.size + 1) (by simp) (some ⟨V.heap.size, 0, none⟩) 1 1 [d] (Reads.newL' V 3 [d] rfl rfl rfl) rfl (by omega)).mono ?_
   rintro e w1 ⟨⟨v, rfl, hL⟩, hb1⟩
   have hfin := Hb.out.trans (((Below.refl V.heap.size V).alloc (Nat.le_refl _) (.cells #[.int .i64 d] 3)).trans (hb1.mono (by simp)) |>.mono Hb.out.size)
   obtain ⟨HL, Hfin⟩ := hd2 hL hfin
   clear hfin hL
   clear hb1
   go_wp2_with fail
   go_ret
   exact ⟨⟨_, rfl, HL.out⟩, Hfin.out⟩
 rw [if_neg e1] at hN
 by_cases e2 : op = 15
 ·rw [if_pos e2] at hN
  subst hN
  have He1 := Lib.hid e1
  clear e1
  subst e2
  go_enter Tryd.func14, Tryd.ntmps14
  go_upto_region 1 with fail
  rw [← HV.out, ← HG.out]
  go_wp2_with fail
  refine (add_any _ (V.heap.size + 1) (by simp) (some ⟨V.heap.size, 0, none⟩) 2 2 [d, e_] (Reads.newL' V 3 [d, e_] rfl rfl rfl) rfl (by omega)).mono ?_
  rintro e w1 ⟨⟨v, rfl, hL⟩, hb1⟩
  have hfin := Hb.out.trans (((Below.refl V.heap.size V).alloc (Nat.le_refl _) (.cells #[.int .i64 d, .int .i64 e_] 3)).trans (hb1.mono (by simp)) |>.mono Hb.out.size)
  obtain ⟨HL, Hfin⟩ := hd2 hL hfin
  clear hfin hL
  clear hb1
  go_wp2_with fail
  go_ret
  exact ⟨⟨_, rfl, HL.out⟩, Hfin.out⟩
 rw [if_neg e2] at hN
 subst hN
 have x1 : (op == 1) = false := by rw [beq_eq_false_iff_ne]; omega
 have x2 : (op == 2) = false := by rw [beq_eq_false_iff_ne]; omega
 have x3 : (op == 3) = false := by rw [beq_eq_false_iff_ne]; omega
 have x4 : (op == 4) = false := by rw [beq_eq_false_iff_ne]; omega
 have x6 : (op == 6) = false := by rw [beq_eq_false_iff_ne]; omega
 have x7 : (op == 7) = false := by rw [beq_eq_false_iff_ne]; omega
 have x11 : (op == 11) = false := by rw [beq_eq_false_iff_ne]; omega
 have x15 : (op == 15) = false := by rw [beq_eq_false_iff_ne]; omega
 have x16 : (op == 16) = false := by rw [beq_eq_false_iff_ne]; omega
 obtain ⟨He1, He2⟩ := hd2 e1 e2
 clear e2 e1
 go_enter Tryd.func14, Tryd.ntmps14
 go_upto_region 1 with fail
 rw [← HV.out, ← HG.out]
 go_wp2_with fail
 go_ret
 exact ⟨⟨_, rfl, Lst.nil _⟩, Hb.out⟩
end Go.Proofs.YtnfjjliiajaijaaDoor
