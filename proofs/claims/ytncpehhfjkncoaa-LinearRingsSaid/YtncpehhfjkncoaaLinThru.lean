/- Walk of through: what is behind jumps. Conditions: the liner and its graph lie in memory, jumps lead to nodes, at most 4096 nodes. -/
import Derived.Test.YtncpehhfjkncoaaLinMap
import Derived.Deep.LoopGhost
import Derived.WalkKit
import Derived.WalkMore
set_option linter.unusedVariables false
set_option linter.unusedSimpArgs false
namespace Go.Proofs.Ytncpehhfjkncoaa
open Go.RowKit

theorem RowsAt.slice {α : Type} {size : Nat} {R : World → Nat → List Value → α → Prop} {w : World} {B : Nat} {v : Value} {l : List α} (h : RowsAt size R w B v l) : ∃ A c, v = .slice A l.length c ∧ l.length ≤ c ∧ c ≤ maxLen := by
  obtain ⟨A, n, c, css, rfl, h2, h3, h4, _⟩ := h
  exact ⟨A, c, by rw [h4], by omega, h3⟩
/-- a node's cells that the walks ask for -/
theorem node_cells {w : World} {B c : Nat} {A : Option Addr} {ns : List NodeD} {N : Nat} (h : RowsAt 12 NodeAt w B (.slice A N c) ns) {x : Nat} (hx : x < ns.length) :
    ∃ ad, A = some ad ∧ w.cell? (ad.add (x * 12)) = some (.int .u8 (nd ns x).op) ∧ w.cell? ⟨(ad.add (x * 12)).block, (ad.add (x * 12)).off + 10, none⟩ = some (.int .i64 (nd ns x).next) := by
  obtain ⟨ad, cs, hA, _, _, _, hNode, n0, nj⟩ := RowsAt.at_ h (nd_get hx)
  obtain ⟨av, rfl, _⟩ := hNode
  exact ⟨ad, hA, n0 _ rfl, nj 10 _ (by omega) rfl⟩
set_option maxRecDepth 100000 in
set_option maxHeartbeats 4000000 in
theorem through_any {w : World} {B lp M : Nat} {ga : Addr} {g : GraphD} {pv kv iv nv ov tv : Value} (hL : Blk w lp 72 #[.pointer (some ga), .map (some M), ov, tv]) (hG : GraphM w B ga g pv kv iv nv) (hB : B ≤ w.heap.size)
    (hh : Hop g.nodes) (hn : g.nodes.length ≤ 4096) (i : Nat) (hi : i < g.nodes.length) :
    Calls Try.prog 20 #[.pointer (some ⟨lp, 0, none⟩), .int .i64 i] w fun e w' => e = .returned (.int .i64 (thru g.nodes i : Nat)) ∧ Below w.heap.size w w' := by
  obtain ⟨r, hr⟩ : ∃ r, thru g.nodes i = r := ⟨_, rfl⟩
  rw [hr]
  obtain ⟨NA, nc, rfl, _, _⟩ := hG.nodes.slice
  obtain ⟨ns, hns⟩ : ∃ ns, g.nodes = ns := ⟨_, rfl⟩
  obtain ⟨N, hN⟩ : ∃ N, ns.length = N := ⟨_, rfl⟩
  rw [hns] at hh hn hi hr
  rw [hN] at hn hi
  have hle : ∀ {k : Nat}, hops ns k i < N := fun {k} => by rw [← hN]; exact hops_lt hh k (by rw [hN]; exact hi)
  have hLl := hL.lt
  have hmm := @run_makeMap Try.prog
  have hm0 := IMap.made w
  have hb0 : Below w.heap.size w (w.alloc (.map #[] 0)) := (Below.refl _ _).alloc (Nat.le_refl _) _
  have hGn := hG.nodes
  rw [hns, hN] at hGn
  have HL := Lib.hid hL
  have HG := Lib.hid hG
  have Hh := Lib.hid hh
  have Hr := Lib.hid hr
  have HN := Lib.hid hN
  have Hm0 := Lib.hid hm0
  have Hb0 := Lib.hid hb0
  have Hns := Lib.hid hns
  clear hns hb0 hm0 hN hr hh hG hL
  go_enter Try.func20, Try.ntmps20
  try go_wp2_with fail
  go_step3
  go_wp2_with fail
  go_step3
  go_wp2_with fail
  go_loopg [1] N (fun gk iv wr => ∃ (k x : Nat) (f : Nat → Option Nat), k + gk = N ∧ iv = .int .i64 x ∧ Hid (hops ns k i = x) ∧ Hid (IMap wr w.heap.size k f) ∧ Hid (cardF f N = k ∧ ∀ v c, f v = some c → c = 1 ∧ ∃ a, a < k ∧ v = hops ns a i) ∧ Hid (∀ b, b < k → (nd ns (hops ns b i)).op = 10) ∧ Hid (Below w.heap.size w wr))
  case atStart => exact ⟨0, i, _, by omega, rfl, Lib.hid rfl, Hm0, Lib.hid ⟨cardF_none N, nofun⟩, Lib.hid (fun b h => absurd h (by omega)), Hb0⟩
  case round =>
    obtain ⟨k, x, f, hk, rfl, hx, hM, hf, hall, hbq⟩ := hrel
    have hLq := HL.out.below hbq.out hLl
    have kl0 := Blk.cell hLq 0
    simp only [List.getElem?_toArray, List.getElem?_cons_zero, List.getElem?_cons_succ] at kl0
    have hGq := HG.out.below (hbq.out.mono hB)
    have g6 := hGq.c6
    rw [Hns.out, HN.out] at g6
    have hxN : x < N := by rw [← hx.out]; exact hle
    obtain ⟨nad, hNA, n0, n10⟩ := node_cells (show RowsAt 12 NodeAt wr B (.slice NA N nc) ns by have := hGq.nodes; rwa [Hns.out, HN.out] at this) (x := x) (by rw [HN.out]; exact hxN)
    subst hNA
    have hl := hM.out.look x (by omega)
    have hxI : (x : Int) < N := by omega
    obtain ⟨op, hxo⟩ : ∃ op, (nd ns x).op = op := ⟨_, rfl⟩
    obtain ⟨nx, hnx⟩ : ∃ nx, (nd ns x).next = nx := ⟨_, rfl⟩
    rw [hxo] at n0
    rw [hnx] at n10
    by_cases h10 : op = 10
    · subst h10
      have hnb := Hh.out _ (nd_mem (by rw [HN.out]; exact hxN)) hxo
      rw [hnx, HN.out] at hnb
      obtain ⟨y, rfl⟩ := Int.eq_ofNat_of_zero_le hnb.1
      have hy : hop ns x = y := by rw [hop_nop hxo, hnx, Int.toNat_natCast]
      have hsx : hops ns (k + 1) i = y := by rw [hops_succ, hx.out, hy]
      have hyN : y < N := by omega
      rcases hfx : f x with _ | c
      · have hkN : k < N := by have := cardF_room hfx hxN; rw [hf.out.1] at this; exact this
        have hcard : cardF (upd f x 1) N = k + 1 := by rw [cardF_upd hfx hxN, hf.out.1]
        have hnew : ∀ v c, upd f x 1 v = some c → c = 1 ∧ ∃ a, a < k + 1 ∧ v = hops ns a i := by
          intro v c hv
          by_cases hvx : v = x
          · subst hvx
            rw [upd_at] at hv
            injection hv with hv
            exact ⟨hv.symm, k, by omega, hx.out.symm⟩
          · rw [upd_ne hvx] at hv
            obtain ⟨h1, a, h2, h3⟩ := hf.out.2 v c hv
            exact ⟨h1, a, by omega, h3⟩
        have hall2 : ∀ b, b < k + 1 → (nd ns (hops ns b i)).op = 10 := fun b hb => by
          by_cases hbk : b = k
          · rw [hbk, hx.out]; exact hxo
          · exact hall.out b (by omega)
        rw [hfx] at hl
        simp only [Option.getD_none, Int.ofNat_eq_natCast, Int.natCast_zero] at hl
        have hgk : 0 < gk := by omega
        have hlz : wr.heap.size ≥ w.heap.size := hbq.out.size
        have HLq := Lib.hid hLq
        have HGq := Lib.hid hGq
        have Hxo := Lib.hid hxo
        have Hnx := Lib.hid hnx
        have Hnb := Lib.hid hnb
        have Hy := Lib.hid hy
        have Hsx := Lib.hid hsx
        have Hfx := Lib.hid hfx
        have Hcard := Lib.hid hcard
        have Hnew := Lib.hid hnew
        have Hall2 := Lib.hid hall2
        have Hk := Lib.hid hk
        have HLOOK := Lib.hid hl
        clear hl hk hall2 hnew hcard hfx hsx hy hnb hnx hxo hGq hLq
        have hl : (Instr.lookup 70 (.map (some w.heap.size)) (.int .i64 x) false).run Try.prog wr = .ok (.int .i64 0) wr := HLOOK.out
        go_wp2_with (first
          | (at_mapUpdate
             refine wpList_put _ rfl _ _ _ rfl w.heap.size k f rfl hM.out (by unfold maxLen; omega) x 1 (by omega) (by omega) rfl rfl ?_
             intro w1 hM1 hg1
             have hb1 : Below w.heap.size w w1 := hbq.out.grown hg1 hlz (fun g e => by injection e with e; omega)
             have hL1 := HL.out.below hb1 hLl
             have q0 := Blk.cell hL1 0
             simp only [List.getElem?_toArray, List.getElem?_cons_zero, List.getElem?_cons_succ] at q0
             have hG1 := HG.out.below (hb1.mono hB)
             have q6 := hG1.c6
             rw [Hns.out, HN.out] at q6
             obtain ⟨nad', hNA', q7, q10⟩ := node_cells (show RowsAt 12 NodeAt w1 B (.slice (some nad) N nc) ns by have := hG1.nodes; rwa [Hns.out, HN.out] at this) (x := x) (by rw [HN.out]; exact hxN)
             injection hNA' with hNA'
             subst hNA'
             rw [Hxo.out] at q7
             rw [Hnx.out] at q10
             have HM1 := Lib.hid hM1
             have Hb1 := Lib.hid hb1
             clear hM1 hg1 hb1 hL1 hG1))
        go_roundg (gk - 1)
        case measure => omega
        case rel => exact ⟨k + 1, y, upd f x 1, by have := Hk.out; omega, rfl, Lib.hid Hsx.out, HM1, Lib.hid ⟨Hcard.out, Hnew.out⟩, Lib.hid Hall2.out, Hb1⟩
      · obtain ⟨rfl, a, hak, hxa⟩ := hf.out.2 x c hfx
        rw [hfx] at hl
        have hl : (Instr.lookup 70 (.map (some w.heap.size)) (.int .i64 x) false).run Try.prog wr = .ok (.int .i64 1) wr := hl
        have hp : hops ns (k - a) x = x := by
          have h1 := hops_add (ns := ns) a (k - a) i
          rw [show a + (k - a) = k by omega, hx.out, ← hxa] at h1
          exact h1.symm
        have h1y : hops ns 1 x = y := hy
        have HLq := Lib.hid hLq
        have HGq := Lib.hid hGq
        have Hxo := Lib.hid hxo
        have Hnx := Lib.hid hnx
        have Hnb := Lib.hid hnb
        have Hy := Lib.hid hy
        have Hsx := Lib.hid hsx
        have Hfx := Lib.hid hfx
        have Hk := Lib.hid hk
        have Hp := Lib.hid hp
        have H1y := Lib.hid h1y
        have Hxa := Lib.hid hxa
        have Hak := Lib.hid hak
        clear hak hxa h1y hp hk hfx hsx hy hnb hnx hxo hGq hLq
        go_wp2_with fail
        go_loopg [6, 7] (k - a - 1) (fun gk2 lv jv wr2 => ∃ m l z : Nat, wr2 = wr ∧ Hid (1 ≤ m) ∧ Hid (m + gk2 = k - a) ∧ lv = .int .i64 l ∧ jv = .int .i64 z ∧ Hid (l = minK ns x m) ∧ Hid (z = hops ns m x))
        case atStart => exact ⟨1, x, y, rfl, Lib.hid (by omega), Lib.hid (by have := Hak.out; omega), rfl, rfl, Lib.hid (by simp [minK, hops]), Lib.hid H1y.out.symm⟩
        case round =>
          obtain ⟨m, l, z, rfl, hm1, hmk, rfl, rfl, hlm, hzm⟩ := hrel
          by_cases hzx : z = x
          · subst hzx
            have hfin : r = l := by
              rw [← Hr.out, thru_ring (k := k) (p := m) hm1.out (by rw [HN.out]; have := Hk.out; omega) (by rw [HN.out]; have := Hk.out; have := hmk.out; omega) (by rw [hx.out]; exact Hxo.out) (by rw [hx.out]; exact hzm.out.symm), hx.out, hlm.out]
            have Hfin := Lib.hid hfin
            clear hfin
            go_wp2_with fail
            try rw [Exit.noGoto_ret]
            go_ret
            rw [Hfin.out]
            exact ⟨rfl, hbq.out⟩
          · have hz2 : (z == x) = false := by simp [hzx]
            have hmlt : m < k - a := by
              rcases Nat.lt_or_ge m (k - a) with h | h
              · exact h
              · exfalso
                have : m = k - a := by have := hmk.out; omega
                apply hzx
                rw [hzm.out, this]
                exact Hp.out
            have hzi : z = hops ns (a + m) i := by rw [hops_add, ← Hxa.out]; exact hzm.out
            have hzN : z < N := by rw [hzi]; exact hle
            have hzo : (nd ns z).op = 10 := by rw [hzi]; exact hall.out (a + m) (by omega)
            have hzb := Hh.out _ (nd_mem (by rw [HN.out]; exact hzN)) hzo
            rw [HN.out] at hzb
            obtain ⟨nad', hNA', p0, p10⟩ := node_cells (show RowsAt 12 NodeAt wr B (.slice (some nad) N nc) ns by have := HGq.out.nodes; rwa [Hns.out, HN.out] at this) (x := z) (by rw [HN.out]; exact hzN)
            injection hNA' with hNA'
            subst hNA'
            obtain ⟨nz, hnz⟩ : ∃ nz, (nd ns z).next = nz := ⟨_, rfl⟩
            rw [hzo] at p0
            rw [hnz] at hzb p10
            obtain ⟨t, rfl⟩ := Int.eq_ofNat_of_zero_le hzb.1
            have ht : t = hops ns (m + 1) x := by rw [hops_succ, ← hzm.out, hop_nop hzo, hnz, Int.toNat_natCast]
            have hzI : (z : Int) < N := by omega
            have hmn : min l z = minK ns x (m + 1) := by rw [hlm.out, hzm.out]; rfl
            have hgk : 0 < gk := by have := hmk.out; omega
            have Hzi := Lib.hid hzi
            have Hzo := Lib.hid hzo
            have Hzb := Lib.hid hzb
            have Hnz := Lib.hid hnz
            have Ht := Lib.hid ht
            have Hmn := Lib.hid hmn
            have Hmlt := Lib.hid hmlt
            clear hmlt hmn ht hnz hzb hzo hzi
            go_wp2_with fail
            all_goals
              obtain ⟨u, hu⟩ : ∃ u, u = min l z := ⟨_, rfl⟩
              have hu' : (u : Int) = min (l : Int) z := by omega
              go_roundg (gk - 1)
              case measure => omega
              case rel => exact ⟨m + 1, u, t, rfl, Lib.hid (by omega), Lib.hid (by have := hmk.out; omega), by congr 1; omega, rfl, Lib.hid (hu.trans Hmn.out), Lib.hid Ht.out⟩
    · have hqo : (op == 10) = false := by simp [h10]
      have hfin : r = x := by rw [← Hr.out, thru_stop (k := k) (by rw [HN.out]; omega) (by rw [hx.out, hxo]; exact h10), hx.out]
      have HLq := Lib.hid hLq
      have HGq := Lib.hid hGq
      have Hl := Lib.hid hl
      have Hxo := Lib.hid hxo
      have Hnx := Lib.hid hnx
      have Hfin := Lib.hid hfin
      clear hfin hnx hxo hl hGq hLq
      go_wp2_with fail
      try rw [Exit.noGoto_ret]
      go_ret
      rw [Hfin.out]
      exact ⟨rfl, hbq.out⟩
end Go.Proofs.Ytncpehhfjkncoaa
