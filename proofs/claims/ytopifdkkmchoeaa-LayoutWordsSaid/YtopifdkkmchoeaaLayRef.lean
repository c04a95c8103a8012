/- Walks of the document's Saves and Right for layouts. Conditions: the graph lies in memory and is right; the layout is the one that is handed back. -/
import Derived.Test.YtopifdkkmchoeaaLayMain
import Derived.Deep.QuietTactic
import Derived.BigQuiet
set_option linter.unusedVariables false
set_option linter.unusedSimpArgs false
namespace Go.Proofs.Ytopifdkkmchoeaa
open Go.RowKit

/-- the registers up to one, in the middle of the nodes -/
def midR (ns : List NodeD) (r q : Nat) : List Int := (regsK ns (r - 6)).map (fun x : Nat => (x : Int)) ++ if writtenB (ns.take q) r then [(r : Int)] else []
theorem regsK_lt (ns : List NodeD) (k : Nat) : ∀ x ∈ regsK ns k, x < 6 + k := fun x hx => by
  obtain ⟨i, hi, rfl⟩ := List.mem_map.1 (List.mem_filter.1 hx).1
  have := List.mem_range.1 hi
  omega
theorem midR_mem (ns : List NodeD) (r q : Nat) (h6 : 6 ≤ r) : decide ((r : Int) ∈ midR ns r q) = writtenB (ns.take q) r := by
  unfold midR
  have h1 : ¬ (r : Int) ∈ (regsK ns (r - 6)).map (fun x : Nat => (x : Int)) := fun h => by
    obtain ⟨x, hx, e⟩ := List.mem_map.1 h
    have := regsK_lt ns (r - 6) x hx
    omega
  cases hb : writtenB (ns.take q) r
  · simp only [Bool.false_eq_true, if_false, List.append_nil]
    exact decide_eq_false h1
  · simp
theorem midR_len (ns : List NodeD) (r q : Nat) (hr : r < 12) : (midR ns r q).length ≤ 6 := by
  unfold midR
  have := regsK_len ns (r - 6)
  split <;> simp <;> omega
theorem midR_zero (ns : List NodeD) (r : Nat) : midR ns r 0 = (regsK ns (r - 6)).map (fun x : Nat => (x : Int)) := by simp [midR, writtenB]
theorem midR_all (ns : List NodeD) (r : Nat) (h6 : 6 ≤ r) : midR ns r ns.length = (regsK ns (r + 1 - 6)).map (fun x : Nat => (x : Int)) := by
  have h := regsK_snoc ns (r - 6)
  rw [show r - 6 + 1 = r + 1 - 6 by omega, show 6 + (r - 6) = r by omega] at h
  rw [h, List.map_append]
  unfold midR
  rw [List.take_length]
  split <;> simp
theorem midR_step (ns : List NodeD) (r q : Nat) (x : NodeD) (h : ns[q]? = some x) : midR ns r (q + 1) = if decide ((r : Int) ∈ writesL x) && !writtenB (ns.take q) r then midR ns r q ++ [(r : Int)] else midR ns r q := by
  unfold midR
  rw [written_snoc ns q x h]
  cases writtenB (ns.take q) r <;> cases decide ((r : Int) ∈ writesL x) <;> simp
set_option maxRecDepth 100000 in
set_option maxHeartbeats 4000000 in
theorem saves_any (w : World) (B : Nat) (g : GraphD) (pv kv iv nv : Value) (hB : B ≤ w.heap.size) (hN : RowsAt 12 NodeAt w B nv g.nodes) (hn1 : g.nodes.length ≤ 4096) :
    Calls Try.prog 27 #[.agg (gcells g pv kv iv nv).toArray] w fun e w' => ∃ v, e = .returned v ∧ w'.ownsRow w.heap.size 3 1 v (regsK g.nodes 6).length (((regsK g.nodes 6).map (fun x : Nat => (x : Int))).map (Value.int .i64)) ∧ Below w.heap.size w w' := by
  obtain ⟨i0, hi0, iz0, iz1, iz2⟩ := info_parts infoIntL
  obtain ⟨NA, nc, hnv, hnc1, hnc2⟩ : ∃ NA nc, nv = .slice NA g.nodes.length nc ∧ g.nodes.length ≤ nc ∧ nc ≤ maxLen := by
    obtain ⟨NA, nn, nc, css, h1, h2, h3, h4, _⟩ := hN
    exact ⟨NA, nc, by rw [h1, h4], by omega, h3⟩
  subst hnv
  obtain ⟨nn, hnl⟩ : ∃ nn, g.nodes.length = nn := ⟨_, rfl⟩
  rw [hnl] at hN hnc1 hn1 ⊢
  unfold maxLen at hnc2
  obtain ⟨gcs, hgcs⟩ : ∃ gcs : Array Value, gcs = (gcells g pv kv iv (.slice NA nn nc)).toArray := ⟨_, rfl⟩
  have hX := Blk.new w 44 gcs
  have hal := (Below.refl w.heap.size w).alloc (Nat.le_refl _) (.cells gcs 44)
  obtain ⟨V, hV⟩ : ∃ V, V = w.alloc (.cells gcs 44) := ⟨_, rfl⟩
  obtain ⟨Gb, hGb⟩ : ∃ Gb, Gb = w.heap.size := ⟨_, rfl⟩
  rw [← hV] at hX hal
  rw [← hGb] at hX
  have hV' := hV
  rw [hgcs] at hV'
  simp only [gcells] at hV' ⊢
  have hGl := hX.lt
  have HX := Lib.hid hX
  have Hal := Lib.hid hal
  have HV := Lib.hid hV
  have HGb := Lib.hid hGb
  have HN := Lib.hid hN
  have Hnl := Lib.hid hnl
  have Hgcs := Lib.hid hgcs
  have HVE := Lib.hid hV'
  have HB := Lib.hid hB
  clear hB hV' hgcs hnl hN hGb hV hal hX
  go_enter Try.func27, Try.ntmps27
  go_upto_region 3 with fail
  rw [← HVE.out, ← HGb.out]
  go_loopw [3, 4] (fun lv i wr => ∃ (r : Nat) (LA : Option Addr) (lc : Nat), 6 ≤ r ∧ r ≤ 12 ∧ i = .int .i64 r ∧ lv = .slice LA (regsK g.nodes (r - 6)).length lc ∧ wr.ownsRow w.heap.size 3 1 lv (regsK g.nodes (r - 6)).length (((regsK g.nodes (r - 6)).map (fun x : Nat => (x : Int))).map (Value.int .i64)) ∧ Blk wr Gb 44 gcs ∧ Below w.heap.size w wr) (fun _ i _ => 12 - (intOf i).toNat)
  case atStart => exact ⟨6, none, 0, by omega, by omega, rfl, rfl, World.ownsRow_nil _ _ _ _, HX.out, Hal.out⟩
  case round =>
    obtain ⟨r, LA, lc, hr6, hr12, rfl, rfl, hO, hXq, hbq⟩ := hrel
    have hsz := hbq.size
    by_cases hrn : r < 12
    · have hrnI : (r : Int) < 12 := by omega
      have hXc := hXq
      rw [Hgcs.out] at hXc
      simp only [gcells] at hXc
      have kx6 := Blk.cell hXc 6
      simp only [List.getElem?_toArray, List.getElem?_cons_zero, List.getElem?_cons_succ] at kx6
      have hO0 : wr.ownsRow w.heap.size 3 1 (.slice LA (regsK g.nodes (r - 6)).length lc) (midR g.nodes r 0).length ((midR g.nodes r 0).map (Value.int .i64)) := by rw [midR_zero, List.length_map]; exact hO
      obtain ⟨l0, hl0⟩ : ∃ l0, (regsK g.nodes (r - 6)).length = l0 := ⟨_, rfl⟩
      rw [hl0] at hO hO0
      rw [hl0]
      have hl00 : (midR g.nodes r 0).length = l0 := by rw [midR_zero, List.length_map, hl0]
      have HO := Lib.hid hO
      have HXq := Lib.hid hXq
      have Hbq := Lib.hid hbq
      have HXc := Lib.hid hXc
      have HO0 := Lib.hid hO0
      have Hl0 := Lib.hid hl0
      have Hl00 := Lib.hid hl00
      clear hl00 hl0 hO0 hXc hbq hXq hO
      go_wp2_with fail
      clear kx6
      go_loopw [3, 14] (fun lv i wr => ∃ (q m : Nat) (LA : Option Addr) (lc : Nat), q ≤ nn ∧ i = .int .i64 q ∧ lv = .slice LA m lc ∧ Hid ((midR g.nodes r q).length = m) ∧ wr.ownsRow w.heap.size 3 1 lv m ((midR g.nodes r q).map (Value.int .i64)) ∧ Blk wr Gb 44 gcs ∧ Below w.heap.size w wr) (fun _ i _ => nn - (intOf i).toNat)
      case atStart => exact ⟨0, l0, LA, lc, by omega, rfl, rfl, Hl00.out, by have h := HO0.out; rw [Hl00.out] at h; exact h, HXq.out, Hbq.out⟩
      case round =>
        obtain ⟨q, m, LA, lc, hq, rfl, rfl, hm, hO, hXq, hbq⟩ := hrel
        have hsz := hbq.size
        by_cases hqn : q < nn
        · as_aux_lemma =>
          have hqnI : (q : Int) < nn := by omega
          obtain ⟨x, hxq⟩ : ∃ x, g.nodes[q]? = some x := ⟨_, List.getElem?_eq_getElem (by have := Hnl.out; omega)⟩
          have hN9 := HN.out.keep (fun _ hp => (hbq.mono HB.out).cell hp) (fun _ _ h => h.keep fun _ hp => (hbq.mono HB.out).cell hp)
          obtain ⟨nad, cs, hna, _, _, _, ⟨av, hcs, hav⟩, z0, nj⟩ := RowsAt.at_ hN9 hxq
          subst hna hcs
          obtain ⟨AA, aac, hava, _, _, _⟩ := hav.slice
          subst hava
          have n0 : wr.cell? (nad.add (q * 12)) = some (.int .u8 x.op) := z0 _ rfl
          have n1 := nj 1 _ (by omega) rfl
          have n2 := nj 2 _ (by omega) rfl
          have n3 := nj 3 _ (by omega) rfl
          have n4 := nj 4 _ (by omega) rfl
          have n5 := nj 5 _ (by omega) rfl
          have n6 := nj 6 _ (by omega) rfl
          have n7 := nj 7 _ (by omega) rfl
          have n8 := nj 8 _ (by omega) rfl
          have n9 := nj 9 _ (by omega) rfl
          have n10 := nj 10 _ (by omega) rfl
          have n11 := nj 11 _ (by omega) rfl
          clear nj z0
          have hal4 := (Below.refl wr.heap.size wr).alloc (Nat.le_refl _) (.cells (ncells x (.slice AA x.args.length aac)).toArray 50)
          have hPn := Blk.new wr 50 (ncells x (.slice AA x.args.length aac)).toArray
          have hX4 := hXq.below hal4 hXq.lt
          have hO4 := own_kept' hO (only_of_below hal4 none) nofun
          have hb4 := hbq.trans (hal4.mono hsz)
          obtain ⟨G3, hG3⟩ : ∃ G3, G3 = wr.heap.size := ⟨_, rfl⟩
          obtain ⟨W3, hW3⟩ : ∃ W3, W3 = wr.alloc (.cells (ncells x (.slice AA x.args.length aac)).toArray 50) := ⟨_, rfl⟩
          rw [← hW3] at hPn hX4 hO4 hb4
          rw [← hG3] at hPn
          have hrange : W3.rangeAt G3 0 (ncells x (.slice AA x.args.length aac)) := fun j v hv => by
            rw [hPn.cell (0 + j), Nat.zero_add, List.getElem?_toArray]
            exact hv
          have hW3' : wr.alloc (.cells #[.int .u8 x.op, .int .u8 x.byo, .int .i64 x.d, .int .i64 x.e, .int .i64 x.a, .int .i64 x.b, .int .i64 x.f, .int .i64 x.cell, .int .u64 x.imm, .slice AA x.args.length aac, .int .i64 x.next, .int .i64 x.els] 50) = W3 := hW3.symm
          have hwr := refwrites_any W3 x (.slice AA x.args.length aac)
          have hstep := midR_step g.nodes r q x hxq
          have hmem := midR_mem g.nodes r q hr6
          have hml := midR_len g.nodes r q hrn
          rw [hm.out] at hml
          obtain ⟨bw, hbw⟩ : ∃ bw, decide ((r : Int) ∈ writesL x) = bw := ⟨_, rfl⟩
          obtain ⟨bl, hbl⟩ : ∃ bl, writtenB (g.nodes.take q) r = bl := ⟨_, rfl⟩
          rw [hbw, hbl] at hstep
          rw [hbl] at hmem
          have HO := Lib.hid hO
          have HXq := Lib.hid hXq
          have Hbq := Lib.hid hbq
          have Hxq := Lib.hid hxq
          have HN9 := Lib.hid hN9
          have Hav := Lib.hid hav
          have Hal4 := Lib.hid hal4
          have HPn := Lib.hid hPn
          have HX4 := Lib.hid hX4
          have HO4 := Lib.hid hO4
          have Hb4 := Lib.hid hb4
          have HG3 := Lib.hid hG3
          have HW3 := Lib.hid hW3
          have Hrange := Lib.hid hrange
          have HW4E := Lib.hid hW3'
          have Hwr := Lib.hid hwr
          have Hstep := Lib.hid hstep
          have Hmem := Lib.hid hmem
          have Hbw := Lib.hid hbw
          have Hbl := Lib.hid hbl
          clear hbl hbw hmem hstep hwr hW3' hrange hW3 hG3 hb4 hO4 hX4 hPn hal4 hav hN9 hxq hbq hXq hO
          go_upto_region 8 with fail
          rw [HW4E.out, ← HG3.out]
          clear n0 n1 n2 n3 n4 n5 n6 n7 n8 n9 n10 n11
          go_wp2_with (refine wpList_load_mid rfl 50 _ rfl G3 0 rfl (ncells x (.slice AA x.args.length aac)) _ Hrange.out Try.underlying50 rfl (by kernel_rfl) ?_)
          refine Hwr.out.mono ?_
          rintro e w11 ⟨⟨wlv, rfl, hLs⟩, hb11⟩
          obtain ⟨WA, wc, rfl, hlc1, hlc2, hLr⟩ := hLs
          obtain ⟨wl, hwl⟩ : ∃ wl, (writesL x).length = wl := ⟨_, rfl⟩
          have hwl2 := writes_len x
          rw [hwl] at hlc1 hLr hwl2 ⊢
          have hX11 := HX4.out.below hb11 HX4.out.lt
          have hO11 := own_kept' HO4.out (only_of_below hb11 none) nofun
          have hb12 := Hb4.out.trans (hb11.mono Hb4.out.size)
          have hin := in_any w11 _ WA wl wc (writesL x) hLr hwl (by omega) r
          rw [Hbw.out] at hin
          have hin2 := in_any w11 _ LA m lc (midR g.nodes r q) (by obtain ⟨_, _, e4, _, _, h⟩ := own_any hO11; injection e4 with e4 _ e6; subst e4; exact h) hm.out (by omega) r
          rw [Hmem.out] at hin2
          have hz12 := hb12.size
          have Hb11 := Lib.hid hb11
          have HLr := Lib.hid hLr
          have HX11 := Lib.hid hX11
          have HO11 := Lib.hid hO11
          have Hb12 := Lib.hid hb12
          have Hwl := Lib.hid hwl
          have Hin := Lib.hid hin
          have Hin2 := Lib.hid hin2
          clear hin2 hin hwl hb12 hO11 hX11 hLr hb11
          clear hlc1 hlc2 hwl2
          cases bw
          · rw [show (false && !bl) = false by rfl, if_neg (by simp)] at Hstep
            go_wp2_with fail
            refine Hin.out.mono ?_
            rintro e w' ⟨rfl, rfl⟩
            go_wp2_with fail
            exact ⟨⟨q + 1, m, LA, lc, by omega, by go_num, rfl, by rw [Hstep.out]; exact hm, by rw [Hstep.out]; exact HO11.out, HX11.out, Hb12.out⟩, by simp [intOf]; omega⟩
          · cases bl
            · rw [show (true && !false) = true by rfl, if_pos rfl] at Hstep
              have hOa := HO11.out.alloc (.cells #[.int .i64 (r : Int)] 3)
              have HOa := Lib.hid hOa
              clear hOa
              go_wp2_with fail
              refine Hin.out.mono ?_
              rintro e w' ⟨rfl, rfl⟩
              go_wp2_with fail
              refine Hin2.out.mono ?_
              rintro e w' ⟨rfl, rfl⟩
              go_wp2_with (first
                | (at_builtin
                   refine wpList_append_any _ rfl (.tmp 28) (.tmp 30) _ rfl w.heap.size 3 i0 _ 1 8 Try.underlying22 hi0 iz0 iz1 iz2 rfl (by omega) (.slice LA m lc) m ((midR g.nodes r q).map (Value.int .i64)) rfl HOa.out (w11.heap.size + 1) (some ⟨w11.heap.size, 0, none⟩) 1 1 [.int .i64 (r : Int)] rfl (Reads.new1 _ _ _) ?c1 ?c2 ?c3 ?c4 ?_
                   case c1 => intro u hu; simp at hu; rw [hu]; rfl
                   case c2 => unfold maxLen; omega
                   case c3 => omega
                   case c4 => simp; omega
                   intro v7 w7 hown7 hg7 hat7
                   obtain ⟨LA7, lc7, rfl, _⟩ := own_any hown7
                   have Hown7 := Lib.hid hown7
                   have Hg7 := Lib.hid hg7
                   have Hat7 := Lib.hid hat7
                   clear hown7 hg7 hat7))
              have hX7 := (HX11.out.alloc (.cells #[.int .i64 (r : Int)] 3)).grown Hg7.out (fun e => own_blk_ne HO11.out HX11.out (by decide) e.symm)
              have hb7 : Below w.heap.size w w7 := (Hb12.out.alloc hz12 (.cells #[.int .i64 (r : Int)] 3)).grown Hg7.out (by simp; omega) (fun b e => (World.ownsRow.lt HO11.out b e).1)
              exact ⟨⟨q + 1, m + 1, LA7, lc7, by omega, by go_num, rfl, (show _ = _ by rw [Hstep.out, List.length_append, hm.out]; rfl), by rw [Hstep.out, List.map_append]; exact Hown7.out, hX7, hb7⟩, by simp [intOf]; omega⟩
            · rw [show (true && !true) = false by rfl, if_neg (by simp)] at Hstep
              go_wp2_with fail
              refine Hin.out.mono ?_
              rintro e w' ⟨rfl, rfl⟩
              go_wp2_with fail
              refine Hin2.out.mono ?_
              rintro e w' ⟨rfl, rfl⟩
              go_wp2_with fail
              exact ⟨⟨q + 1, m, LA, lc, by omega, by go_num, rfl, by rw [Hstep.out]; exact hm, by rw [Hstep.out]; exact HO11.out, HX11.out, Hb12.out⟩, by simp [intOf]; omega⟩
        · obtain rfl : q = nn := by omega
          have hqnI : ¬ (q : Int) < q := by omega
          rw [← Hnl.out, midR_all g.nodes r hr6, List.length_map] at hm
          rw [← Hnl.out, midR_all g.nodes r hr6] at hO
          have HO := Lib.hid hO
          have HXq := Lib.hid hXq
          have Hbq := Lib.hid hbq
          clear hbq hXq hO
          go_wp2_with fail
          exact ⟨⟨r + 1, LA, lc, by omega, by omega, by go_num, by rw [hm.out], by rw [hm.out]; exact HO.out, HXq.out, Hbq.out⟩, by simp [intOf]; omega⟩
    · obtain rfl : r = 12 := by omega
      have hrnI : ¬ (12 : Int) < 12 := by omega
      rw [show 12 - 6 = 6 from rfl] at hO
      have HO := Lib.hid hO
      have HXq := Lib.hid hXq
      have Hbq := Lib.hid hbq
      clear hbq hXq hO
      go_wp2_with fail
      go_ret
      exact ⟨_, rfl, by rw [← List.map_map]; exact HO.out, Hbq.out⟩
end Go.Proofs.Ytopifdkkmchoeaa
