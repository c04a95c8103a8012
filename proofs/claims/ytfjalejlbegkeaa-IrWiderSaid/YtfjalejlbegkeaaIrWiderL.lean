/- The walk of the law IrWider. Conditions: what the law's arguments are read as. -/
import Derived.Test.YtfjalejlbegkeaaIrFirst
import Derived.Test.YtfjalejlbegkeaaIrSamePG
import Derived.Test.YtfjalejlbegkeaaIrWideM
import Derived.Test.YtfjalejlbegkeaaOpenI
set_option linter.unusedVariables false
set_option linter.unusedSimpArgs false
namespace Go.Proofs.Ytfjalejlbegkeaa
open Go.RowKit

theorem GraphsWf.okW {gs : List GraphD} (h : GraphsWf gs) : GraphsOk gs := ⟨fun g hg => (h.each g hg).lenK, fun g hg x hx => by have := ((h.each g hg).nodes x hx).len; omega⟩
theorem GraphsWf.smallW {gs : List GraphD} (h : GraphsWf gs) : GsSmall gs := ⟨fun g hg => ⟨(h.each g hg).lenP, (h.each g hg).lenK, (h.each g hg).lenI, (h.each g hg).lenN, fun x hx => ((h.each g hg).nodes x hx).len⟩, h.len⟩
theorem mod_word (a : Int) (m : Int) (h0 : 0 < m) (h1 : m < 1000000) : ∃ k : Nat, (k : Int) < m ∧ IntKind.i64.wrap ((IntKind.u64.wrap a).tmod m) = (k : Int) := by
  have h2 : 0 ≤ IntKind.u64.wrap a := by rw [IntKind.wrap_u64]; omega
  have h3 := Int.emod_nonneg (IntKind.u64.wrap a) (show m ≠ 0 by omega)
  have h4 := Int.emod_lt_of_pos (IntKind.u64.wrap a) (show 0 < m by omega)
  refine ⟨(IntKind.u64.wrap a % m).toNat, by omega, ?_⟩
  rw [Int.tmod_eq_emod_of_nonneg h2, IntKind.wrap_i64]
  omega
/-- a graph in the middle of being widened -/
def midG (t : Nat) (g : GraphD) : GraphD := ⟨g.params, g.kinds ++ (List.range t).map fun i => ((i % 2 : Nat) : Int), g.cells, g.init, g.result, g.keep, g.nodes, g.entry⟩
def wideL (k j : Nat) (gs : List GraphD) : List GraphD := (gs.take j).map (wideG k) ++ gs.drop j
theorem midG_zero (g : GraphD) : midG 0 g = g := by simp [midG]
theorem wideL_len (k j : Nat) (gs : List GraphD) : (wideL k j gs).length = gs.length := by simp [wideL]; omega
theorem wideL_get {k j : Nat} {gs : List GraphD} {g : GraphD} (h : gs[j]? = some g) : (wideL k j gs)[j]? = some g := by
  have hl := (List.getElem?_eq_some_iff.1 h).1
  have e : ((gs.take j).map (wideG k)).length = j := by rw [List.length_map, List.length_take]; omega
  unfold wideL
  rw [List.getElem?_append_right (by omega), e, List.getElem?_drop, Nat.sub_self]
  exact h
theorem set_same {α : Type} (l : List α) (j : Nat) (x : α) (h : l[j]? = some x) : l.set j x = l := by
  obtain ⟨hl, rfl⟩ := List.getElem?_eq_some_iff.1 h
  simp
theorem wideL_set {k j : Nat} {gs : List GraphD} {g : GraphD} (h : gs[j]? = some g) : (wideL k j gs).set j (wideG k g) = wideL k (j + 1) gs := by
  have hl := (List.getElem?_eq_some_iff.1 h).1
  have e : ((gs.take j).map (wideG k)).length = j := by rw [List.length_map, List.length_take]; omega
  unfold wideL
  rw [List.set_append_right _ _ (by omega), e, Nat.sub_self, List.take_add_one, h, List.drop_eq_getElem_cons hl]
  simp only [Option.toList, List.map_append, List.map_cons, List.map_nil, List.append_assoc, List.set_cons_zero, List.cons_append, List.nil_append]
theorem wideL_all (k : Nat) (gs : List GraphD) : wideL k gs.length gs = gs.map (wideG k) := by simp [wideL]

theorem Blk.set_one {w : World} {g : Nat} {t : TypeId} {v : Value} (h : Blk w g t #[v]) (u : Value) : Blk (w.setCell ⟨g, 0, none⟩ u) g t #[u] := by
  have h2 := h.set_ 0 u
  simpa using h2
set_option maxRecDepth 100000 in
set_option maxHeartbeats 8000000 in
theorem walk_IrWider (w : World) (gv0 : Value) (gs0 : List GraphD) (hg0 : GraphsIn w gv0 gs0) (a1 : Int) (w1 : (Lit.int .i64 a1).wf = true) :
    Calls Try.prog 6 #[.agg #[gv0], .int .i64 a1] w fun e w' => e = .returned (.bool true) ∧ Below w.heap.size w w' := by
  obtain ⟨hgs, hwf⟩ := hg0
  have hsm := hwf.smallW
  have hok := hwf.okW
  obtain ⟨ik, hik, hkz0, hkz1, hkz2⟩ := info_parts infoKindr
  obtain ⟨ig, hig, hgz0, hgz1, hgz2⟩ := info_parts infoGraph
  obtain ⟨GA, hGA⟩ : ∃ GA, GA = w.heap.size := ⟨_, rfl⟩
  obtain ⟨A0, c0, rfl, hc1, hc2⟩ := hgs.slice
  obtain ⟨n, hn⟩ : ∃ n, gs0.length = n := ⟨_, rfl⟩
  rw [hn] at hgs hc1 ⊢
  have hP := Blk.new w 24 #[.slice A0 n c0]
  have hb := (Below.refl w.heap.size w).alloc (Nat.le_refl _) (.cells #[.slice A0 n c0] 24)
  have hA := hgs.below hb
  obtain ⟨V, hV⟩ : ∃ V, V = w.alloc (.cells #[.slice A0 n c0] 24) := ⟨_, rfl⟩
  rw [← hV] at hb hA hP
  rw [← hGA] at hP
  have hPl := hP.lt
  obtain ⟨k, hk20, hkw⟩ := mod_word a1 20 (by omega) (by omega)
  obtain ⟨r, hr⟩ : ∃ r, checkB gs0 false = r := ⟨_, rfl⟩
  unfold maxLen at hc2
  have Hb := Lib.hid hb
  have HP := Lib.hid hP
  have HA := Lib.hid hA
  have HV := Lib.hid hV
  have HGGA := Lib.hid hGA
  have Hsm := Lib.hid hsm
  have Hok := Lib.hid hok
  have Hgs := Lib.hid hgs
  have Hwf := Lib.hid hwf
  have Hn := Lib.hid hn
  have Hkw := Lib.hid hkw
  have Hr := Lib.hid hr
  clear hr hkw hn hwf hgs hok hsm hGA hV hA hP hb
  go_enter Try.func6, Try.ntmps6
  go_upto_region 1 with fail
  rw [← HV.out, ← HGGA.out]
  go_wp2_with fail
  refine (first_any V).mono ?_
  rintro e w1 ⟨rfl, hb1⟩
  have hbw1 := Hb.out.trans (hb1.mono Hb.out.size)
  have hA1 := HA.out.below (hb1.mono Hb.out.size)
  have hP1 := HP.out.below hb1 hPl
  have hchk := check_any hA1 hbw1.size Hok.out false
  rw [Hr.out] at hchk
  have kp0 := Blk.cell hP1 0
  simp only [List.getElem?_toArray, List.getElem?_cons_zero, List.getElem?_cons_succ] at kp0
  have hz1 := hbw1.size
  have Hbw1 := Lib.hid hbw1
  have HA1 := Lib.hid hA1
  have HP1 := Lib.hid hP1
  have Hchk := Lib.hid hchk
  clear hchk hP1 hA1 hbw1
  clear hb1
  cases r
  case false =>
    go_wp2_with fail
    refine Hchk.out.mono ?_
    rintro e w2 ⟨rfl, hb2⟩
    have hbe := Hbw1.out.trans (hb2.mono hz1)
    have Hbe := Lib.hid hbe
    clear hbe
    clear hb2 kp0
    go_wp2_with fail
    go_ret
    exact ⟨rfl, Hbe.out⟩
  case true =>
    go_wp2_with fail
    refine Hchk.out.mono ?_
    rintro e w2 ⟨rfl, hb2⟩
    have hbw2 := Hbw1.out.trans (hb2.mono hz1)
    have hA2 := HA1.out.below (hb2.mono hz1)
    have hP2 := HP1.out.below hb2 HP1.out.lt
    have hz2 := hbw2.size
    clear kp0 hb2
    have kp0 := Blk.cell hP2 0
    simp only [List.getElem?_toArray, List.getElem?_cons_zero, List.getElem?_cons_succ] at kp0
    have Hbw2 := Lib.hid hbw2
    have HA2 := Lib.hid hA2
    have HP2 := Lib.hid hP2
    clear hP2 hA2 hbw2
    by_cases h15 : 15 < n
    · have h15I : (15 : Int) < n := by omega
      go_wp2_with fail
      go_ret
      exact ⟨rfl, Hbw2.out⟩
    · have h15I : ¬ (15 : Int) < n := by omega
      go_wp2_with fail
      refine (copy_any2 _ gs0 w2 w.heap.size HA2.out hz2 Hsm.out).mono ?_
      rintro e w4 hcp
      obtain ⟨hb4, pv, css, rfl, hO, hC, hKA⟩ := hcp
      rw [Hn.out] at hO
      obtain ⟨CA, cc, rfl, hcc, hcc2, _⟩ := own_any hO
      have hal4 := (Below.refl w4.heap.size w4).alloc (Nat.le_refl _) (.cells #[.slice CA n cc] 24)
      have hCb := Blk.new w4 24 #[.slice CA n cc]
      obtain ⟨W5, hW5⟩ : ∃ W5, W5 = w4.alloc (.cells #[.slice CA n cc] 24) := ⟨_, rfl⟩
      obtain ⟨C, hCC⟩ : ∃ C, C = w4.heap.size := ⟨_, rfl⟩
      obtain ⟨M, hMM⟩ : ∃ M, M = w2.heap.size := ⟨_, rfl⟩
      rw [← hMM] at hb4 hO hC hz2
      have hM4 : WInv w4 M (.slice CA n cc) css gs0 := ⟨by rw [Hn.out]; exact hO, hC, hKA⟩
      have hMw4 : M ≤ w4.heap.size := by rw [hMM]; exact hb4.size
      rw [← hW5] at hal4 hCb
      rw [← hCC] at hCb
      have hM5 := hM4.kept hal4
      have hb5 := hb4.trans (hal4.mono hMw4)
      have hbw5 := Hbw2.out.trans (hb5.mono hz2)
      have hA5 := HA2.out.below (hb5.mono hz2)
      have hPl2 := HP2.out.lt
      have hP5 := HP2.out.below hb5 (by rw [hMM]; exact hPl2)
      have hCl : M ≤ C := by rw [hCC]; exact hMw4
      unfold maxLen at hcc2
      clear kp0
      have kp0 := Blk.cell hP5 0
      simp only [List.getElem?_toArray, List.getElem?_cons_zero, List.getElem?_cons_succ] at kp0
      have kc0 := Blk.cell hCb 0
      simp only [List.getElem?_toArray, List.getElem?_cons_zero, List.getElem?_cons_succ] at kc0
      have hbM : Below M W5 W5 := Below.refl _ _
      have hGl : GA < M := by rw [hMM]; exact hPl2
      have hkw := Hkw.out
      have HO := Lib.hid hO
      have HC := Lib.hid hC
      have HKA := Lib.hid hKA
      have HM4 := Lib.hid hM4
      have Hb4 := Lib.hid hb4
      have Hal4 := Lib.hid hal4
      have HCb := Lib.hid hCb
      have HW5 := Lib.hid hW5
      have HCC := Lib.hid hCC
      have HM5 := Lib.hid hM5
      have Hb5 := Lib.hid hb5
      have Hbw5 := Lib.hid hbw5
      have HA5 := Lib.hid hA5
      have HP5 := Lib.hid hP5
      have HMM := Lib.hid hMM
      have HbM := Lib.hid hbM
      clear hbM hMM hP5 hA5 hbw5 hb5 hM5 hCC hW5 hCb hal4 hb4 hM4 hKA hC hO
      go_upto_region 6 with fail
      rw [← HW5.out, ← HCC.out]
      go_wp2_with fail
      clear kc0 kp0 hkw
      have hck : checkB gs0 false = true := Hr.out
      have hheads : ∀ g ∈ gs0, g.kinds.length ≤ 1024 ∧ 0 ≤ g.cells ∧ g.cells ≤ 64 := fun g hg => by
        unfold checkB at hck
        rw [Bool.and_eq_true, Bool.and_eq_true] at hck
        have h4 := List.all_eq_true.1 hck.1.2 g hg
        have h5 := (head_par h4).2.2.1
        unfold headB head2 at h4
        simp only [Bool.and_eq_true, Bool.not_eq_true', Bool.or_eq_false_iff, decide_eq_false_iff_not] at h4
        refine ⟨h5, ?_, ?_⟩ <;> omega
      have Hck := Lib.hid hck
      have Hheads := Lib.hid hheads
      clear hheads hck
      go_loopw [30] (fun i wr => ∃ j : Nat, j ≤ n ∧ i = .int .i64 j ∧ Below M W5 wr ∧ Blk wr C 24 #[.slice CA n cc] ∧ ∃ css, WInv wr M (.slice CA n cc) css (wideL k j gs0)) (fun i _ => n - (intOf i).toNat)
      case atStart => exact ⟨0, by omega, rfl, HbM.out, HCb.out, css, by simpa [wideL] using HM5.out⟩
      case round =>
        obtain ⟨j, hj, rfl, hbo, hCo, css1, hMo⟩ := hrel
        by_cases hlt : j < n
        · as_aux_lemma =>
          have hjI : (j : Int) < n := by omega
          obtain ⟨g, hgj⟩ : ∃ g, gs0[j]? = some g := ⟨_, List.getElem?_eq_getElem (by have := Hn.out; omega)⟩
          obtain ⟨hk1024, hc0, hc64⟩ := Hheads.out g (List.mem_of_getElem? hgj)
          have hwl : (wideL k j gs0).length = n := by rw [wideL_len]; exact Hn.out
          obtain ⟨_, gC, hgC, hgM, ⟨gcb, hgcb⟩, _⟩ := own_row hMo.1 (by omega)
          subst hgC
          have hM1 : WInv wr M (.slice (some ⟨gC, 0, none⟩) n cc) css1 ((wideL k j gs0).set j (midG 0 g)) := by
            rw [midG_zero, set_same _ _ _ (wideL_get hgj)]; exact hMo
          obtain ⟨kn, hkn⟩ : ∃ kn, g.kinds.length = kn := ⟨_, rfl⟩
          rw [hkn] at hk1024
          have kc0 := Blk.cell hCo 0
          simp only [List.getElem?_toArray, List.getElem?_cons_zero, List.getElem?_cons_succ] at kc0
          obtain ⟨gcl, hgcl⟩ : ∃ gcl, g.cells = gcl := ⟨_, rfl⟩
          rw [hgcl] at hc0 hc64
          have Hgj := Lib.hid hgj
          have Hbo := Lib.hid hbo
          have HCo := Lib.hid hCo
          have HMo := Lib.hid hMo
          have HM1 := Lib.hid hM1
          have Hkn := Lib.hid hkn
          have Hgcb := Lib.hid hgcb
          have Hwl := Lib.hid hwl
          have Hgcl := Lib.hid hgcl
          clear hgcl hwl hgcb hkn hM1 hMo hCo hbo hgj
          go_wp2_with fail
          clear kc0
          go_loopw [9] (fun i wq => ∃ t : Nat, t ≤ k ∧ kn + t ≤ 1024 ∧ i = .int .i64 t ∧ Below M W5 wq ∧ Blk wq C 24 #[.slice (some ⟨gC, 0, none⟩) n cc] ∧ ∃ css, WInv wq M (.slice (some ⟨gC, 0, none⟩) n cc) css ((wideL k j gs0).set j (midG t g))) (fun i _ => k - (intOf i).toNat)
          case atStart => exact ⟨0, by omega, by omega, rfl, Hbo.out, HCo.out, css1, HM1.out⟩
          case round =>
            obtain ⟨t, htk, htn, rfl, hbq, hCq, css2, hMq⟩ := hrel
            have hget : ((wideL k j gs0).set j (midG t g))[j]? = some (midG t g) := List.getElem?_set_self (by have := Hwl.out; omega)
            obtain ⟨cs, hcs, pv, kv, iv, nv, rfl, hp1, hk1, hi1, hn1⟩ := hMq.2.1.2 j _ hget
            have hcel := (own_row hMq.1 (by omega)).2
            obtain ⟨gC', e, _, ⟨gcb2, hgcb2⟩, hcell⟩ := hcel
            injection e with e
            injection e with e
            subst e
            have hkl : (midG t g).kinds.length = kn + t := by simp only [midG, List.length_append, List.length_map, List.length_range]; rw [Hkn.out]
            obtain ⟨KA, kc, hkv, hkc1, hkc2, _⟩ := own_any hk1
            rw [hkl] at hkv hkc1
            have m1 : wr.cell? ⟨gC, j * 8 + 1, none⟩ = some kv := by
              have h := hcell (j * 8 + 1) kv (by rw [flatten_get css2 8 j _ hcs hMq.2.1.len 1 (by omega)]; rfl)
              rwa [addr_zero] at h
            have m2 : wr.cell? ⟨gC, j * 8 + 2, none⟩ = some (.int .i64 gcl) := by
              have h := hcell (j * 8 + 2) (.int .i64 g.cells) (by rw [flatten_get css2 8 j _ hcs hMq.2.1.len 2 (by omega)]; rfl)
              rw [Hgcl.out] at h
              rwa [addr_zero] at h
            have f1 := Blk.frozen hgcb2 (j * 8 + 1)
            have f2 := Blk.frozen hgcb2 (j * 8 + 2)
            rw [hkv] at m1
            unfold maxLen at hkc2
            clear hcell
            have hsq := hbq.size
            by_cases hlt2 : t < k ∧ kn + t < 1024
            · as_aux_lemma =>
              obtain ⟨ht1, ht2⟩ := hlt2
              have ht1I : (t : Int) < k := by omega
              have ht2I : ((kn + t : Nat) : Int) < 1024 := by omega
              have hK2 : wr.ownsRow M 46 1 (.slice KA (kn + t) kc) (kn + t) ((midG t g).kinds.map (Value.int .u8)) := by rw [← hkv, ← hkl]; exact hk1
              have hK3 := hK2.alloc (.cells #[.int .u8 ((t % 2 : Nat) : Int)] 46)
              have hNew : Reads (wr.alloc (.cells #[.int .u8 ((t % 2 : Nat) : Int)] 46)) (wr.heap.size + 1) 1 (some ⟨wr.heap.size, 0, none⟩) 1 [.int .u8 ((t % 2 : Nat) : Int)] := Reads.new1 _ _ _
              have kc0 := Blk.cell hCq 0
              simp only [List.getElem?_toArray, List.getElem?_cons_zero, List.getElem?_cons_succ] at kc0
              have hzM : M ≤ wr.heap.size := by have := HbM.out.size; have := HMM.out; have h1 := Hb5.out.size; omega
              have HbQ2 := Lib.hid (show Below M W5 wr from hbq)
              have hzM2 : M ≤ wr.heap.size := hzM
              have hwl2 : ((wideL k j gs0).set j (midG t g)).length = n := by rw [List.length_set]; exact Hwl.out
              have Hbq := Lib.hid hbq
              have HCq := Lib.hid hCq
              have HMq := Lib.hid hMq
              have Hget := Lib.hid hget
              have Hcs := Lib.hid hcs
              have Hp1 := Lib.hid hp1
              have Hk1 := Lib.hid hk1
              have Hi1 := Lib.hid hi1
              have Hn1 := Lib.hid hn1
              have Hgcb2 := Lib.hid hgcb2
              have Hkv := Lib.hid hkv
              have Hkl := Lib.hid hkl
              have HK2 := Lib.hid hK2
              have HK3 := Lib.hid hK3
              have HNew := Lib.hid hNew
              have Hwl2 := Lib.hid hwl2
              clear hwl2 hNew hK3 hK2 hkl hkv hgcb2 hn1 hi1 hk1 hp1 hcs hget hMq hCq hbq
              go_upto_region 13 with (first
                | (at_builtin
                   refine wpList_append_any _ rfl (.tmp 54) (.tmp 58) _ rfl M 46 ik _ 1 1 Try.underlying42 hik hkz0 hkz1 hkz2 rfl (by omega) (.slice KA (kn + t) kc) (kn + t) ((midG t g).kinds.map (Value.int .u8)) rfl HK3.out (wr.heap.size + 1) (some ⟨wr.heap.size, 0, none⟩) 1 1 [.int .u8 ((t % 2 : Nat) : Int)] rfl HNew.out ?c1 ?c2 ?c3 ?c4 ?_
                   case c1 => intro u hu; simp at hu; rw [hu]; rfl
                   case c2 => unfold maxLen; omega
                   case c3 => omega
                   case c4 => simp; omega
                   intro v7 w7 hown7 hg7 hat7
                   obtain ⟨KA7, kc7, rfl, _⟩ := own_any hown7
                   have Hat7 := Lib.hid hat7
                   have Hown7 := Lib.hid hown7
                   have hG7 := (Hgcb2.out.alloc (.cells #[.int .u8 ((t % 2 : Nat) : Int)] 46)).grown hg7 (fun e => own_blk_ne HK3.out (Hgcb2.out.alloc _) (by decide) e.symm)
                   have f7 := Blk.frozen hG7 (j * 8 + 1)
                   have m7 : w7.cell? ⟨gC, j * 8 + 1, none⟩ = some (.slice KA (kn + t) kc) := by rw [hG7.cell, ← Hgcb2.out.cell]; exact m1))
              have halQ := (Below.refl wr.heap.size wr).alloc (Nat.le_refl _) (.cells #[.int .u8 ((t % 2 : Nat) : Int)] 46)
              have hMa := HMq.out.kept halQ
              have hKa : KindsOwn w7 M (.slice KA7 (kn + t + 1) kc7) ((midG t g).kinds ++ [((t % 2 : Nat) : Int)]) := by
                show w7.ownsRow M 46 1 (.slice KA7 (kn + t + 1) kc7) ((midG t g).kinds ++ [((t % 2 : Nat) : Int)]).length (((midG t g).kinds ++ [((t % 2 : Nat) : Int)]).map (Value.int .u8))
                rw [List.length_append, Hkl.out, List.map_append]
                exact Hown7.out
              have hMb := hMa.append (i := j) Hwl2.out Hget.out Hcs.out (by rw [Hkv.out]; exact hg7) hKa (by rw [Hkv.out]; exact Hat7.out)
              rw [List.set_set, show (⟨(midG t g).params, (midG t g).kinds ++ [((t % 2 : Nat) : Int)], (midG t g).cells, (midG t g).init, (midG t g).result, (midG t g).keep, (midG t g).nodes, (midG t g).entry⟩ : GraphD) = midG (t + 1) g by simp [midG, List.range_succ]] at hMb
              have hal7 := HbQ2.out.alloc hzM2 (.cells #[.int .u8 ((t % 2 : Nat) : Int)] 46)
              have hbn : Below M W5 (w7.setCell ⟨gC, j * 8 + 1, none⟩ (.slice KA7 (kn + t + 1) kc7)) := (hal7.grown hg7 (by simp; omega) (fun k e => (World.ownsRow.lt HK3.out k e).1)).setCell (p := ⟨gC, j * 8 + 1, none⟩) hgM _
              have hCn := ((HCq.out.alloc (.cells #[.int .u8 ((t % 2 : Nat) : Int)] 46)).grown hg7 (fun e => own_blk_ne HK3.out (HCq.out.alloc _) (by decide) e.symm)).far (p := ⟨gC, j * 8 + 1, none⟩) (Blk.ne_ HCq.out Hgcb2.out (by decide)) (.slice KA7 (kn + t + 1) kc7)
              clear m1 m2 f1 f2 kc0 f7 m7
              have HMa := Lib.hid hMa
              have HKa := Lib.hid hKa
              have HMb := Lib.hid hMb
              have Hal7 := Lib.hid hal7
              have Hbn := Lib.hid hbn
              have HCn := Lib.hid hCn
              have HG7 := Lib.hid hG7
              have HalQ := Lib.hid halQ
              clear halQ hG7 hCn hbn hal7 hMb hKa hMa
              clear hown7 hg7 hat7
              go_wp2_with fail
              exact ⟨⟨t + 1, by omega, by omega, by go_num, Hbn.out, HCn.out, _, HMb.out⟩, by simp [intOf]; omega⟩
            · as_aux_lemma =>
              have hexit : ¬ (t < k ∧ kn + t < 1024) := hlt2
              have hcase : ¬ (t : Int) < k ∨ (t : Int) < k ∧ ¬ ((kn + t : Nat) : Int) < 1024 := by omega
              have htm : t = min k (1024 - kn) := by omega
              have hwl2 : ((wideL k j gs0).set j (midG t g)).length = n := by rw [List.length_set]; exact Hwl.out
              have hMc := hMq.cells (i := j) hwl2 hget hcs (min 64 (gcl + k))
              rw [List.set_set, show (⟨(midG t g).params, (midG t g).kinds, min 64 (gcl + k), (midG t g).init, (midG t g).result, (midG t g).keep, (midG t g).nodes, (midG t g).entry⟩ : GraphD) = wideG k g by simp only [midG, wideG, wl]; rw [Hkn.out, Hgcl.out, htm], wideL_set Hgj.out] at hMc
              have hbn : Below M W5 (wr.setCell ⟨gC, j * 8 + 2, none⟩ (.int .i64 (min 64 (gcl + k)))) := hbq.setCell (p := ⟨gC, j * 8 + 2, none⟩) hgM _
              have hCn := hCq.far (p := ⟨gC, j * 8 + 2, none⟩) (Blk.ne_ hCq hgcb2 (by decide)) (.int .i64 (min 64 (gcl + k)))
              have hgk0 : 0 ≤ gcl + (k : Int) := by omega
              have hgk1 : gcl + (k : Int) < 1000 := by omega
              have kc0 := Blk.cell hCq 0
              simp only [List.getElem?_toArray, List.getElem?_cons_zero, List.getElem?_cons_succ] at kc0
              clear hlt2 hexit
              obtain ⟨ks, hks⟩ : ∃ ks, kn + t = ks := ⟨_, rfl⟩
              rw [hks] at m1 hcase hkc1 htn
              have Hbq := Lib.hid hbq
              have HCq := Lib.hid hCq
              have HMq := Lib.hid hMq
              have Hget := Lib.hid hget
              have Hcs := Lib.hid hcs
              have Hp1 := Lib.hid hp1
              have Hk1 := Lib.hid hk1
              have Hi1 := Lib.hid hi1
              have Hn1 := Lib.hid hn1
              have Hgcb2 := Lib.hid hgcb2
              have Hkv := Lib.hid hkv
              have Hkl := Lib.hid hkl
              have HMc := Lib.hid hMc
              have Hbn := Lib.hid hbn
              have HCn := Lib.hid hCn
              have Htm := Lib.hid htm
              have Hwl2 := Lib.hid hwl2
              have Hks := Lib.hid hks
              clear hks hwl2 htm hCn hbn hMc hkl hkv hgcb2 hn1 hi1 hk1 hp1 hcs hget hMq hCq hbq
              have hmin : (if gcl + (k : Int) < 64 then gcl + (k : Int) else 64) = min 64 (gcl + (k : Int)) := by split <;> omega
              have Hmin := Lib.hid hmin
              clear hmin
              rcases hcase with x1 | ⟨x1, x2⟩
              all_goals
                go_upto_region 16 with fail
                rw [Hmin.out]
                clear m1 m2 f1 f2 kc0
                go_wp2_with fail
                exact ⟨⟨j + 1, by omega, by go_num, Hbn.out, HCn.out, _, HMc.out⟩, by simp [intOf]; omega⟩
        · have hjn : j = n := by omega
          subst hjn
          have hjI : ¬ (j : Int) < j := by omega
          have hMo2 : WInv wr M (.slice CA j cc) css1 (gs0.map (wideG k)) := by rw [← wideL_all, Hn.out]; exact hMo
          have hlw : (gs0.map (wideG k)).length = j := by rw [List.length_map]; exact Hn.out
          have hzr := hbo.size
          have hzM : M ≤ wr.heap.size := by have := HMM.out; have h1 := Hb5.out.size; omega
          have hal := ((Below.refl wr.heap.size wr).alloc (Nat.le_refl _) (.cells (ncells nd0 (.slice none 0 0)).toArray 38)).alloc (by simp) (.cells (gcells gr0 (.slice none 0 0) (.slice none 0 0) (.slice none 0 0) (.slice (some ⟨wr.heap.size, 0, none⟩) 1 1)).toArray 45)
          have hNb := (Blk.new wr 38 (ncells nd0 (.slice none 0 0)).toArray).alloc (.cells (gcells gr0 (.slice none 0 0) (.slice none 0 0) (.slice none 0 0) (.slice (some ⟨wr.heap.size, 0, none⟩) 1 1)).toArray 45)
          have hGr : Reads ((wr.alloc (.cells (ncells nd0 (.slice none 0 0)).toArray 38)).alloc (.cells (gcells gr0 (.slice none 0 0) (.slice none 0 0) (.slice none 0 0) (.slice (some ⟨wr.heap.size, 0, none⟩) 1 1)).toArray 45)) (wr.heap.size + 1 + 1) 8 (some ⟨wr.heap.size + 1, 0, none⟩) 1 (gcells gr0 (.slice none 0 0) (.slice none 0 0) (.slice none 0 0) (.slice (some ⟨wr.heap.size, 0, none⟩) 1 1)) := Reads.newS (wr.heap.size + 1) (by simp) _ _ _ _ _ rfl rfl
          obtain ⟨wa, hwa⟩ : ∃ wa, wa = (wr.alloc (.cells (ncells nd0 (.slice none 0 0)).toArray 38)).alloc (.cells (gcells gr0 (.slice none 0 0) (.slice none 0 0) (.slice none 0 0) (.slice (some ⟨wr.heap.size, 0, none⟩) 1 1)).toArray 45) := ⟨_, rfl⟩
          have hsza : wa.heap.size = wr.heap.size + 1 + 1 := by rw [hwa]; simp
          have eW : ((wr.alloc (.cells #[.int .u8 12, .int .u8 0, .int .i64 0, .int .i64 0, .int .i64 (-1), .int .i64 0, .int .i64 0, .int .i64 0, .int .u64 0, .slice none 0 0, .int .i64 0, .int .i64 0] 38)).alloc (.cells #[.slice none 0 0, .slice none 0 0, .int .i64 0, .slice none 0 0, .bool false, .int .i64 (-1), .slice (some ⟨wr.heap.size, 0, none⟩) 1 1, .int .i64 0] 45)) = wa := hwa.symm
          rw [← hwa] at hal hNb hGr
          have hMa := hMo2.kept hal
          have hCa := hCo.below hal hCo.lt
          have hOa : wa.ownsRow M 45 8 (.slice CA j cc) j css1.flatten := by have h := hMa.1; rw [hlw] at h; exact h
          have hba := hbo.trans (hal.mono hzM)
          have kc0 := Blk.cell hCo 0
          simp only [List.getElem?_toArray, List.getElem?_cons_zero, List.getElem?_cons_succ] at kc0
          have Hbo := Lib.hid hbo
          have HCo := Lib.hid hCo
          have HMo := Lib.hid hMo
          have HMo2 := Lib.hid hMo2
          have Hlw := Lib.hid hlw
          have Hal := Lib.hid hal
          have HNb := Lib.hid hNb
          have HGr := Lib.hid hGr
          have Hsza := Lib.hid hsza
          have HMa := Lib.hid hMa
          have HCa := Lib.hid hCa
          have HOa := Lib.hid hOa
          have Hba := Lib.hid hba
          have HEW := Lib.hid eW
          have Hwa := Lib.hid hwa
          clear hwa eW hba hOa hCa hMa hsza hGr hNb hal hlw hMo2 hMo hCo hbo
          go_upto_region 18 with (first
            | (at_builtin
               rw [HEW.out]
               refine wpList_append_any _ rfl (.tmp 74) (.tmp 78) _ rfl M 45 ig _ 8 128 Try.underlying22 hig hgz0 hgz1 hgz2 rfl (by omega) (.slice CA j cc) j css1.flatten rfl HOa.out (wr.heap.size + 1 + 1) (some ⟨wr.heap.size + 1, 0, none⟩) 1 1 (gcells gr0 (.slice none 0 0) (.slice none 0 0) (.slice none 0 0) (.slice (some ⟨wr.heap.size, 0, none⟩) 1 1)) rfl HGr.out ?c1 ?c2 ?c3 ?c4 ?_
               case c1 => intro u hu; simp only [gcells, List.mem_cons, List.not_mem_nil, or_false] at hu; rcases hu with rfl | rfl | rfl | rfl | rfl | rfl | rfl | rfl <;> rfl
               case c2 => unfold maxLen; omega
               case c3 => omega
               case c4 => have := Hsza.out; omega
               intro v8 w8 hown8 hg8 hat8
               obtain ⟨CA8, cc8, rfl, _⟩ := own_any hown8
               have Hown8 := Lib.hid hown8
               have Hg8 := Lib.hid hg8
               have hC8 := HCa.out.grown hg8 (fun e => own_blk_ne HOa.out HCa.out (by decide) e.symm)
               have f8 := Blk.frozen hC8 0
               have m8 := Blk.cell hC8 0
               simp only [List.getElem?_toArray, List.getElem?_cons_zero, List.getElem?_cons_succ] at m8))
          have hF : Far wa (Value.slice CA j cc).ownBlock := fun q e => by
            obtain ⟨cs, hcs⟩ := own_blk HOa.out e
            exact .inr ⟨_, _, hcs, by decide, by decide, by decide⟩
          have hGs8 := HMa.out.2.1.kept Hg8.out hF
          have hN8 := HNb.out.grown Hg8.out (fun e => own_blk_ne HOa.out HNb.out (by decide) e.symm)
          have hG8 : GraphOwn w8 M (gcells gr0 (.slice none 0 0) (.slice none 0 0) (.slice none 0 0) (.slice (some ⟨wr.heap.size, 0, none⟩) 1 1)) gr0 :=
            ⟨_, _, _, _, rfl, World.ownsRow_nil _ _ _ _, World.ownsRow_nil _ _ _ _, World.ownsRow_nil _ _ _ _, [ncells nd0 (.slice none 0 0)], rfl, own_of_blk hN8 hzM (by simp) (by simp [ncells, gr0]) (by unfold maxLen; simp [gr0]), fun i x hx => by
              match i, hx with
              | 0, hx =>
                simp only [gr0, List.getElem?_cons_zero, Option.some.injEq] at hx
                subst hx
                exact ⟨_, rfl, World.ownsRow_nil _ _ _ _⟩⟩
          have hGs9 := (hGs8.snoc hG8).kept (grown_setCell w8 ⟨C, 0, none⟩ (.slice CA8 (j + 1) cc8)) (Far.blk hC8 (by decide) (by decide) (by decide))
          have hO9 := ownsRow_setCell_other Hown8.out (a := ⟨C, 0, none⟩) (own_blk_ne Hown8.out hC8 (by decide)) (.slice CA8 (j + 1) cc8)
          have hC9 : Blk (w8.setCell ⟨C, 0, none⟩ (.slice CA8 (j + 1) cc8)) C 24 #[.slice CA8 (j + 1) cc8] := Blk.set_one hC8 _
          have hbn : Below M W5 (w8.setCell ⟨C, 0, none⟩ (.slice CA8 (j + 1) cc8)) := (Hba.out.grown Hg8.out (by have := Hsza.out; omega) (fun k e => (World.ownsRow.lt HOa.out k e).1)).setCell (p := ⟨C, 0, none⟩) hCl _
          obtain ⟨W9, hW9⟩ : ∃ W9, W9 = w8.setCell ⟨C, 0, none⟩ (.slice CA8 (j + 1) cc8) := ⟨_, rfl⟩
          rw [← hW9] at hGs9 hO9 hC9 hbn
          have hlen9 : (gs0.map (wideG k) ++ [gr0]).length = j + 1 := by rw [List.length_append, Hlw.out]; rfl
          have hAt9 : GraphsAt W9 W9.heap.size (.slice CA8 (j + 1) cc8) (gs0.map (wideG k) ++ [gr0]) := by
            refine hGs9.at_ (base' := M) (e := 45) ?_
            rw [hlen9, List.flatten_append]
            simpa using hO9
          have hokW : GraphsOk (gs0.map (wideG k) ++ [gr0]) := by
            refine ⟨fun g hg => ?_, fun g hg => ?_⟩
            · rcases List.mem_append.1 hg with h | h
              · obtain ⟨g', hg', rfl⟩ := List.mem_map.1 h
                have := (Hheads.out g' hg').1
                simp only [wideG, wl, List.length_append, List.length_map, List.length_range]
                omega
              · simp at h; rw [h]; simp [gr0]
            · rcases List.mem_append.1 hg with h | h
              · obtain ⟨g', hg', rfl⟩ := List.mem_map.1 h
                exact Hok.out.args g' hg'
              · simp at h; rw [h]; intro x hx; simp [gr0] at hx; rw [hx]; simp [nd0]
          have hchk9 := check_any hAt9 (Nat.le_refl _) hokW false
          rw [check_wide Hck.out (by rw [Hn.out]; omega)] at hchk9
          have hP9 := HP5.out.below hbn hGl
          have hA9 := HA5.out.below (hbn.mono hz2)
          have hbw9 := Hbw5.out.trans (hbn.mono hz2)
          have hz9 := hbn.size
          have hzw9 := hbw9.size
          have hW9e : w8.setCell ⟨C, 0, none⟩ (.slice CA8 (j + 1) cc8) = W9 := hW9.symm
          clear kc0 f8 m8
          have kp0 := Blk.cell hP9 0
          simp only [List.getElem?_toArray, List.getElem?_cons_zero, List.getElem?_cons_succ] at kp0
          have kc0 := Blk.cell hC9 0
          simp only [List.getElem?_toArray, List.getElem?_cons_zero, List.getElem?_cons_succ] at kc0
          have HG8 := Lib.hid hG8
          have HN8 := Lib.hid hN8
          have HGs8 := Lib.hid hGs8
          have HF := Lib.hid hF
          have HGs9 := Lib.hid hGs9
          have HO9 := Lib.hid hO9
          have HC9 := Lib.hid hC9
          have Hbn := Lib.hid hbn
          have HW9 := Lib.hid hW9
          have Hlen9 := Lib.hid hlen9
          have HAt9 := Lib.hid hAt9
          have HokW := Lib.hid hokW
          have Hchk9 := Lib.hid hchk9
          have HP9 := Lib.hid hP9
          have HA9 := Lib.hid hA9
          have Hbw9 := Lib.hid hbw9
          have HC8 := Lib.hid hC8
          have HW9E := Lib.hid hW9e
          clear hW9e hC8 hbw9 hA9 hP9 hchk9 hokW hAt9 hlen9 hW9 hbn hC9 hO9 hGs9 hF hGs8 hN8 hG8
          clear hown8 hg8 hat8
          rw [HW9E.out]
          go_wp2_with fail
          refine Hchk9.out.mono ?_
          rintro e w10 ⟨rfl, hb10⟩
          have hbw10 := Hbw9.out.trans (hb10.mono hzw9)
          have hA10 := HA9.out.below (hb10.mono hzw9)
          have hG10 := HAt9.out.below hb10
          have hP10 := HP9.out.below hb10 HP9.out.lt
          have hC10 := HC9.out.below hb10 HC9.out.lt
          clear kc0 kp0
          have kp0 := Blk.cell hP10 0
          simp only [List.getElem?_toArray, List.getElem?_cons_zero, List.getElem?_cons_succ] at kp0
          have kc0 := Blk.cell hC10 0
          simp only [List.getElem?_toArray, List.getElem?_cons_zero, List.getElem?_cons_succ] at kc0
          have hneq : eqGs gs0 (gs0.map (wideG k) ++ [gr0]) = false := by
            rw [Bool.eq_false_iff]
            intro h
            have h2 := congrArg List.length ((eqGs_iff _ _).1 h)
            rw [Hlen9.out, Hn.out] at h2
            omega
          have hsm := same_any (.slice A0 j c0) (.slice CA8 (j + 1) cc8) gs0 (gs0.map (wideG k) ++ [gr0]) w10 W9.heap.size hb10.size (hA10.more hzw9) hG10
          rw [hneq] at hsm
          have Hbw10 := Lib.hid hbw10
          have HA10 := Lib.hid hA10
          have HG10 := Lib.hid hG10
          have HP10 := Lib.hid hP10
          have HC10 := Lib.hid hC10
          have Hb10 := Lib.hid hb10
          have Hneq := Lib.hid hneq
          have HSM10 := Lib.hid hsm
          clear hsm hneq hb10 hC10 hP10 hG10 hA10 hbw10
          by_cases hk0 : k = 0
          · have hk0b : ((k : Int) == 0) = true := by simp [hk0]
            have Hk0 := Lib.hid hk0
            clear hk0
            go_wp2_with fail
            go_ret
            exact ⟨rfl, Hbw10.out⟩
          · have hk0b : ((k : Int) == 0) = false := by rw [beq_eq_false_iff_ne]; omega
            have Hk0 := Lib.hid hk0
            clear hk0
            go_wp2_with fail
            refine HSM10.out.mono ?_
            rintro e w11 ⟨rfl, hb11⟩
            have hbe := Hbw10.out.trans (hb11.mono Hbw10.out.size)
            have Hbe := Lib.hid hbe
            clear hbe
            clear hb11 kp0 kc0
            go_wp2_with fail
            go_ret
            exact ⟨rfl, Hbe.out⟩
end Go.Proofs.Ytfjalejlbegkeaa
