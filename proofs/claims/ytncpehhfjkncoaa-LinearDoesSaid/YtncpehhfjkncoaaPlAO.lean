/- Walk of line: a graph laid in a line. Conditions: the graph lies in memory, its nodes lead to nodes, at most 4096 nodes, rows within the reach. -/
import Derived.Test.YtncpehhfjkncoaaPlAA
import Derived.Test.YtncpehhfjkncoaaPlAN
set_option linter.unusedVariables false
set_option linter.unusedSimpArgs false
set_option maxRecDepth 100000
set_option maxHeartbeats 16000000
namespace Go.Proofs.Ytncpehhfjkncoaa
open Go.RowKit

def LineGot (g : GraphD) (w : World) (e : Ending) (w' : World) : Prop := ∃ pv kv iv nv, e = .returned (.agg (gcells (lineG g) pv kv iv nv).toArray) /\ GraphOwn w' w.heap.size (gcells (lineG g) pv kv iv nv) (lineG g) /\ Below w.heap.size w w'
theorem line_any {w : World} {B : Nat} {ga : Addr} {g : GraphD} {pv kv iv nv : Value} (hG : GraphM w B ga g pv kv iv nv) (hB : B <= w.heap.size) (hns : NsOk g.nodes) (he : 0 <= g.entry /\ g.entry < g.nodes.length) (hps : g.params.length * 8 <= 140737488351232) (hks : g.kinds.length <= 140737488351232) (his : g.init.length * 8 <= 140737488351232) :
  Calls Try.prog 13 #[.pointer (some ga)] w fun e w' => LineGot g w e w' := by
 obtain ⟨entry, hentry⟩ := Int.eq_ofNat_of_zero_le he.1
 have heN : entry < g.nodes.length := by omega
 obtain ⟨NA, nc, rfl, _, _⟩ := hG.nodes.slice;obtain ⟨PA, pc, rfl, hpc1, hpc2, hPr⟩ := hG.params.slice;obtain ⟨KA, kc, rfl, hkc1, hkc2, hKr⟩ := hG.kinds.slice;obtain ⟨IA, ic, rfl, hic1, hic2, hIr⟩ := hG.init.slice;obtain ⟨pl, hpl⟩ := mn (g.params.length);obtain ⟨kkl, hkkl⟩ := mn (g.kinds.length);obtain ⟨il, hil⟩ := mn (g.init.length);rw [hpl] at hPr hpc1 hps hG;rw [hkkl] at hKr hkc1 hks hG;rw [hil] at hIr hic1 his hG;obtain ⟨ns, hnse⟩ := mn (g.nodes);rw [hnse] at hns heN;obtain ⟨N, hN⟩ := mn (ns.length);have hn := hns.len;have heN' := heN;rw [hN] at hn heN;obtain ⟨r0, hr0⟩ := mn (thru ns entry)
 have hr0N : r0 < N := by rw [<- hr0, <- hN]; exact thru_lt hns.hop heN'
 have hline := line_good hns heN';obtain ⟨S, hS⟩ := mn (lineS ns entry);rw [hS] at hline;obtain ⟨W, hW⟩ := nm (w.heap.size)
 have hwork : workF ns (N + 2) ⟨fun _ => none, [], [r0]⟩ = S := by rw [<- hS, <- hr0, <- hN]; rfl
 have hgl := hG.lt;have g7 := hG.c7;rw [hentry] at g7
 -- the blocks made ahead of the first loop
 have hm0 := IMap.made (w.alloc (.cells #[.slice none 0 0, .slice none 0 0, .int .i64 0, .slice none 0 0, .bool false, .int .i64 0, .slice none 0 0, .int .i64 0] 48));have hmm := @run_makeMap Try.prog;obtain ⟨w3, hw3⟩ := nm (((w.alloc (.cells #[.slice none 0 0, .slice none 0 0, .int .i64 0, .slice none 0 0, .bool false, .int .i64 0, .slice none 0 0, .int .i64 0] 48)).alloc (.map #[] 0)).alloc (.cells #[.pointer (some ga), .map (some (w.heap.size + 1)), .slice none 0 0, .slice none 0 0] 72));obtain ⟨HPr, HKr, HIr, Hpl, Hkkl, Hil, HG, Hns⟩ := hd8 hPr hKr hIr hpl hkkl hil hG hns;obtain ⟨Hline, HS, Hwork, Hr0, HN, Hnse, Hm0, He⟩ := hd8 hline hS hwork hr0 hN hnse hm0 he;obtain ⟨Hentry, HeN', Hw3⟩ := hd3 hentry heN' hw3;clear hw3 heN' hentry he hm0 hnse hN hr0 hwork hS hline hns hG hil hkkl hpl hIr hKr hPr;go_enter Try.func13, Try.ntmps13;go_upto_region 2 with fail;obtain ⟨M, hM⟩ := nm (w.heap.size + 1);obtain ⟨lp, hlp⟩ := nm (w.heap.size + 1 + 1);have hw3' := Hw3.out;rw [<- hlp, <- hM];rw [<- hM] at hw3';rw [<- hw3', <- hW]
 have hB3 : Blk w3 lp 72 #[.pointer (some ga), .map (some M), .slice none 0 0, .slice none 0 0] := by
  rw [hw3'];have := Blk.new ((w.alloc (.cells #[.slice none 0 0, .slice none 0 0, .int .i64 0, .slice none 0 0, .bool false, .int .i64 0, .slice none 0 0, .int .i64 0] 48)).alloc (.map #[] 0)) 72 #[.pointer (some ga), .map (some M), .slice none 0 0, .slice none 0 0];rw [hlp]
  simpa using this
 have hb3 : Below W w w3 := by
  rw [hw3', hW];exact (((Below.refl _ _).alloc (Nat.le_refl _) _).alloc (by simp) _).alloc (by simp; omega) _
 have hM3 : IMap w3 M 0 (fun _ => none) := by
  have h := (Hm0.out.alloc (.cells #[.pointer (some ga), .map (some M), .slice none 0 0, .slice none 0 0] 72))
  rw [hw3', hM];rw [hM] at h
  simpa using h
 have hO3 : Blk w3 W 48 #[.slice none 0 0, .slice none 0 0, .int .i64 0, .slice none 0 0, .bool false, .int .i64 0, .slice none 0 0, .int .i64 0] := by
  rw [hw3', hW];exact ((Blk.new _ _ _).alloc _).alloc _
 have hthr := through_any hB3 (HG.out.below (hb3.mono (by omega))) (by have := hb3.size; omega) (by rw [Hnse.out]; exact Hns.out.hop) (by rw [Hnse.out, HN.out]; exact hn) entry (by rw [Hnse.out]; exact HeN'.out);rw [Hnse.out, Hr0.out] at hthr;have g7' := hb3.cell (p := ⟨ga.block, ga.off + 7, none⟩) (by simp only; omega);rw [g7] at g7';have hsz3 := hb3.size
 have hlo : M <= lp /\ M <= M := by omega
 have hMl : M < w3.heap.size := hM3.lt;have hlpl : lp < w3.heap.size := hB3.lt
 have hWl : W < lp := by omega
 have hWM : W < M := by omega
 have hBW : B <= W := by omega
 have hWw : W <= w.heap.size := by omega
 obtain ⟨HB3, Hb3, HM3, HO3, Hthr, Hw3', Hlp, HM⟩ := hd8 hB3 hb3 hM3 hO3 hthr hw3' hlp hM;have HWe := Lib.hid hW;clear hW hM hlp hw3' hthr hO3 hM3 hb3 hB3;clear g7;go_wp2_with fail;refine Hthr.out.mono ?_;rintro e w4 ⟨rfl, hb34⟩;have hB5 := (HB3.out.below hb34 hlpl).alloc (.cells #[.int .i64 r0] 3);have hM5 := (HM3.out.below hb34 hMl).alloc (.cells #[.int .i64 r0] 3);have hO5 := (HO3.out.below hb34 HO3.out.lt).alloc (.cells #[.int .i64 r0] 3);have hT5 := Blk.new w4 3 #[.int .i64 r0];have hsz4 := hb34.size;have hb5 := (Hb3.out.trans (hb34.mono (by omega))).alloc (by omega) (.cells #[.int .i64 r0] 3);have f53 := Blk.frozen hB5 3;have k53 := Blk.cell hB5 3;simp only [List.getElem?_toArray, List.getElem?_cons_zero, List.getElem?_cons_succ] at k53;have hT6 := hT5.far (p := ⟨lp, 3, none⟩) (by simp only; omega) (.slice (some ⟨w4.heap.size, 0, none⟩) 1 1);have hO6 := hO5.far (p := ⟨lp, 3, none⟩) (by simp only; omega) (.slice (some ⟨w4.heap.size, 0, none⟩) 1 1);have hB6 := hB5.set_ 3 (.slice (some ⟨w4.heap.size, 0, none⟩) 1 1);have hM6 := hM5.set (p := ⟨lp, 3, none⟩) (hM5.ne_blk hB5) (.slice (some ⟨w4.heap.size, 0, none⟩) 1 1);have hb6 := hb5.setCell (p := ⟨lp, 3, none⟩) (by simp only; omega) (.slice (some ⟨w4.heap.size, 0, none⟩) 1 1)
 have hL6 : LinAt ((w4.alloc (.cells #[.int .i64 r0] 3)).setCell ⟨lp, 3, none⟩ (.slice (some ⟨w4.heap.size, 0, none⟩) 1 1)) M lp M ga N (.slice none 0 0) (.slice (some ⟨w4.heap.size, 0, none⟩) 1 1) ⟨fun _ => none, [], [r0]⟩ := by
  refine ⟨by simpa using hB6, by rw [cardF_none]; exact hM6, LNodes.nil _ _ _, ?_, hlo⟩;exact Tail.of_own (n := 1) (c := 1) (own_of_blk hT6 (by omega) rfl rfl (by unfold maxLen; omega))
 obtain ⟨HB5, HM5, HO5, HT5, Hb5, HT6, HO6, HB6⟩ := hd8 hB5 hM5 hO5 hT5 hb5 hT6 hO6 hB6;obtain ⟨HM6, Hb6, HL6, Hb34⟩ := hd4 hM6 hb6 hL6 hb34;clear hb34 hL6 hb6 hM6 hB6 hO6 hT6 hb5 hT5 hO5 hM5 hB5;clear g7' hmm;go_wp2_with fail;obtain ⟨w6, hw6⟩ := nm ((w4.alloc (.cells #[.int .i64 r0] 3)).setCell ⟨lp, 3, none⟩ (.slice (some ⟨w4.heap.size, 0, none⟩) 1 1));rw [<- hw6];rw [<- hw6] at HO6 Hb6 HL6;have Hw6 := Lib.hid hw6;clear hw6;clear f53 k53 HT6 HB6 HM6 HT5 HB5 HM5 HO5;have hlenN := HN.out
 go_loopg [] (N + 2) (fun gk wr => ∃ (s : LS) (ov tv : Value), Hid (LinAt wr M lp M ga N ov tv s) /\ Hid (workF ns gk s = S) /\ Hid (∃ m, Bnd ns s m /\ N + 2 <= gk + m) /\ Hid (LsOk N s) /\ Hid (Blk wr W 48 #[.slice none 0 0, .slice none 0 0, .int .i64 0, .slice none 0 0, .bool false, .int .i64 0, .slice none 0 0, .int .i64 0]) /\ Hid (Below W w wr))
 case atStart => exact ⟨_, _, _, HL6, Hwork, Lib.hid ⟨0, ⟨by simp [cardF_none], by simp [cardF_none]⟩, by omega⟩, Lib.hid ⟨by simp [cardF_none], by simp [cardF_none], fun i hi => by rw [List.mem_singleton] at hi; rw [hi]; exact hr0N⟩, HO6, Hb6⟩
 case round =>
  obtain ⟨s, ov, tv, hLq, hwk, hbnd, hokq, hOq, hbq⟩ := hrel;have hBl := hLq.out.blk;have kl0 := bc hBl 0;have kl1 := bc hBl 1;have kl2 := bc hBl 2;have kl3 := bc hBl 3;have fl3 := Blk.frozen hBl 3;obtain ⟨TA, tc, htv, htc, _, hTr⟩ := hLq.out.todo.form;rw [List.length_map] at htv htc hTr
  rcases htd : s.todo with _ | ⟨i, r⟩
  ·rw [htd] at htv htc;subst htv
   have hsS : s = S := by
    rw [<- hwk.out]
    cases gk with
    | zero => rfl
    | succ k => simp only [workF, htd]
   subst hsS;have hNO := hLq.out.out.nodes;have hMp := hLq.out.map;obtain ⟨css0, hcl0, hOo0, _⟩ := hNO;obtain ⟨OG, oc, rfl, hOGb, hOGl, hoc1, hoc2⟩ := own_form hOo0 Hline.out.pos;obtain ⟨out, houte⟩ := mn (s.out);obtain ⟨atf, hatf⟩ := mn (s.at_);obtain ⟨ol, hol⟩ := mn (out.length);have hNO := hLq.out.out.nodes;have hoN := Hline.out.len;rw [houte] at hNO hoN;rw [hol] at hNO;rw [houte, hol] at kl2 hoc1 hBl;rw [hatf] at hMp;rw [HN.out] at hoN;rw [hol] at hoN
   have hN0 : NodesOwn wr M (.slice (some ⟨OG, 0, none⟩) ol oc) (mixN atf out 0) := by rw [mix_zero]; exact hNO
   obtain ⟨HBl, Htd, HTr, HNO, HMp, Hcl0, HOo0, Houte⟩ := hd8 hBl htd hTr hNO hMp hcl0 hOo0 houte;obtain ⟨Hatf, hol', HN0⟩ := hd3 hatf hol hN0;clear hN0 hol hatf houte hOo0 hcl0 hMp hNO hTr htd hBl;have hol : Hid (out.length = ol) := hol';clear kl0 kl1 fl3;go_wp2_with fail;clear kl2 kl3
   go_loopg [50] ol (fun gk iv wr => ∃ k : Nat, k + gk = ol /\ iv = .int .i64 k /\ Hid (NodesOwn wr M (.slice (some ⟨OG, 0, none⟩) ol oc) (mixN atf out k)) /\ Hid (Blk wr lp 72 #[.pointer (some ga), .map (some M), .slice (some ⟨OG, 0, none⟩) ol oc, .slice TA 0 tc]) /\ Hid (IMap wr M (cardF atf N) atf) /\ Hid (Blk wr W 48 #[.slice none 0 0, .slice none 0 0, .int .i64 0, .slice none 0 0, .bool false, .int .i64 0, .slice none 0 0, .int .i64 0]) /\ Hid (Below W w wr))
   case atStart => exact ⟨0, by omega, rfl, HN0, HBl, HMp, hOq, hbq⟩
   case round =>
    obtain ⟨k, hk, rfl, hNk, hBk, hMk, hOk, hbk⟩ := hrel
    by_cases hkl : k < ol
    ·have hBk' := hBk.out;have kl1 := bc hBk' 1;have kl2 := bc hBk' 2
     have hxe : ∃ x, out[k]? = some x := ⟨out[k]'(by have := hol.out; omega), List.getElem?_eq_getElem _⟩
     obtain ⟨x, hx⟩ := hxe;have hmx : (mixN atf out k)[k]? = some x := mix_get.trans hx;have hml : (mixN atf out k).length = ol := mix_len.trans hol.out;obtain ⟨av, cs, hBN, hav, hcell⟩ := hNk.out.cells hmx;have hfix := mix_next (at_ := atf) hx;have hlOG : lp ≠ OG := hBk'.ne_ hBN (by decide);have hWOG : W ≠ OG := hOk.out.ne_ hBN (by decide);have hGk := hk
     have hMne : ∀ j, M ≠ (⟨OG, j, none⟩ : Addr).block := fun j => hMk.out.ne_blk hBN
     have hsx : s.out[k]? = some x := by rw [Houte.out]; exact hx
     obtain ⟨op, byo, d, e, a, b, f, cell, imm, args, next, els⟩ := x;have c0 := hcell 0 _ rfl
     by_cases h10 : op = 10
     ·subst h10;obtain ⟨t, v, htn, htN, hat⟩ := Hline.out.nop hsx rfl;simp only at htn;subst htn;rw [Hatf.out] at hat;have hl := hMk.out.drew.look t (by rw [HN.out] at htN; omega);rw [hat] at hl;have hl : (Instr.lookup 70 (.map (some M)) (.int .i64 t) false).run Try.prog wr.drew = .ok (.int .i64 v) wr.drew := hl;have c10 := hcell 10 _ rfl;have f10 := Blk.frozen hBN (k * 12 + 10);have hN2 := hNk.out.setj (j := 10) (u := .int .i64 v) (y := ⟨10, byo, d, e, a, b, f, cell, imm, args, v, els⟩) hmx hml (by omega) (fun _ => rfl) rfl
      have hfx : fixN atf k ⟨10, byo, d, e, a, b, f, cell, imm, args, (t : Int), els⟩ = ⟨10, byo, d, e, a, b, f, cell, imm, args, v, els⟩ := by
       simp [fixN, hat]
      rw [<- hfx, hfix] at hN2;have hB2 := hBk.out.far (p := ⟨OG, k * 12 + 10, none⟩) hlOG (.int .i64 v);have hO2 := hOk.out.far (p := ⟨OG, k * 12 + 10, none⟩) hWOG (.int .i64 v);have hM2 := hMk.out.set (p := ⟨OG, k * 12 + 10, none⟩) (hMne _) (.int .i64 v);have hb2 := hbk.out.setCell (p := ⟨OG, k * 12 + 10, none⟩) (by simp only; omega) (.int .i64 v)
      have c0' : (wr.setCell ⟨OG, k * 12 + 10, none⟩ (.int .i64 v)).cell? ⟨OG, k * 12 + 0, none⟩ = some (.int .u8 10) := by
       rw [World.cell?_setCell_other _ _ _ _ (by simp)]; exact c0
      simp only [Nat.add_zero] at c0 c0';obtain ⟨HBk', Hx, Hmx, Hml, HBN, Hav, Hcell, Hfix⟩ := hd8 hBk' hx hmx hml hBN hav hcell hfix;obtain ⟨HlOG, HWOG, HGk, HMne, Hsx, Hat, HN2, Hfx⟩ := hd8 hlOG hWOG hGk hMne hsx hat hN2 hfx;obtain ⟨HB2, HO2, HM2, Hb2, HtN⟩ := hd5 hB2 hO2 hM2 hb2 htN;clear htN hb2 hM2 hO2 hB2 hfx hN2 hat hsx hMne hGk hWOG hlOG hfix hcell hav hBN hml hmx hx hBk';go_upto_region 12 with fail;refine wp_region_late (S := fun W => W.cell? ⟨lp, 1, none⟩ = some (.map (some M)) /\ W.cell? ⟨OG, k * 12 + 10, none⟩ = some (.int .i64 t) /\ (Instr.lookup 70 (.map (some M)) (.int .i64 t) false).run Try.prog W = .ok (.int .i64 v) W) #[false, false, false, false, false, false, false, false, false, false, false, false, true] (by kernel_rfl) ⟨kl1, c10, hl⟩ (fun hHeld => ?_);refine wpAnyL_tk 0 ?_;refine wpAnyL_tk 1 ?_;refine wpAnyL_tk 2 ?_;refine wpAnyL_tk 3 ?_;refine wpAnyL_tk 4 ?_;refine wpAnyL_tk 5 ?_;refine wpAnyL_tk 6 ?_;refine wpAnyL_tk 7 ?_;refine wpAnyL_tk 8 ?_;refine wpAnyL_tk 9 ?_;refine wpAnyL_tk 10 ?_;refine wpAnyL_tk 11 ?_;refine wpAnyL_ls 12 (fun K hK => ?_);go_simp;refine hK.out _ _ ?_;clear hK K hHeld;refine wpAnyL_done (by kernel_rfl) ?_ _;clear c0 c10 f10 hl kl1 kl2;go_wp2_with fail
      go_roundg (gk - 1)
      case measure => omega
      case rel => exact ⟨k + 1, by omega, by simp, HN2, HB2, HM2, HO2, Lib.hid Hb2.out.drew⟩
     ·have hq10 : (op == 10) = false := by simp [h10]
      have c1 := hcell 1 _ rfl;have c2 := hcell 2 _ rfl;have c3 := hcell 3 _ rfl;have c4 := hcell 4 _ rfl;have c5 := hcell 5 _ rfl;have c6 := hcell 6 _ rfl;have c7 := hcell 7 _ rfl;have c8 := hcell 8 _ rfl;have c9 := hcell 9 _ rfl;have c10 := hcell 10 _ rfl;have c11 := hcell 11 _ rfl;simp only [Nat.add_zero] at c0;obtain ⟨HBk', Hx, Hmx, Hml, HBN, Hav, Hcell, Hfix⟩ := hd8 hBk' hx hmx hml hBN hav hcell hfix;obtain ⟨HlOG, HWOG, HGk, HMne, Hsx⟩ := hd5 hlOG hWOG hGk hMne hsx;clear hsx hMne hGk hWOG hlOG hfix hcell hav hBN hml hmx hx hBk';go_wp2_with fail;refine (next_any wr ⟨op, byo, d, e, a, b, f, cell, imm, args, next, els⟩ av).mono ?_;rintro ee w2 ⟨⟨nv, rfl, hLst⟩, hb12⟩;obtain ⟨QA, qc, rfl, _, _, _⟩ := hLst;clear kl1 kl2 c0 c1 c2 c3 c4 c5 c6 c7 c8 c9 c10 c11;have hN2 := hNk.out.kept (only_of_below hb12 none) (Far.none_ _);have hB2 := hBk.out.below hb12 hBk.out.lt;have hO2 := hOk.out.below hb12 hOk.out.lt;have hM2 := hMk.out.below hb12 hMk.out.lt;have hb2 := hbk.out.trans (hb12.mono (by have := hbk.out.size; omega));obtain ⟨av2, cs2, hBN2, _, hcell2⟩ := hN2.cells Hmx.out;have c0 := hcell2 0 _ rfl;simp only [Nat.add_zero] at c0;have f10 := Blk.frozen hBN2 (k * 12 + 10);have c10 := hcell2 10 _ rfl;obtain ⟨ql, hql⟩ := mn ((nextL ⟨op, byo, d, e, a, b, f, cell, imm, args, next, els⟩).length);rw [hql]
      by_cases hnl : nextL ⟨op, byo, d, e, a, b, f, cell, imm, args, next, els⟩ = []
      ·have hql0 : ql = 0 := by rw [<- hql, hnl]; rfl
       subst hql0
       have h9 : op ≠ 9 := fun h => absurd hnl (br_next h)
       have hq9 : (op == 9) = false := by simp [h9]
       have hfx : fixN atf k ⟨op, byo, d, e, a, b, f, cell, imm, args, next, els⟩ = ⟨op, byo, d, e, a, b, f, cell, imm, args, next, els⟩ := by
        unfold fixN;simp only [if_neg h10, if_pos hnl, if_neg h9]
       have hN3 : NodesOwn w2 M (.slice (some ⟨OG, 0, none⟩) ol oc) (mixN atf out (k + 1)) := by
        rw [<- Hfix.out, hfx, set_same Hmx.out];exact hN2
       obtain ⟨HN2, HB2, HO2, HM2, Hb2, HBN2, Hcell2, Hql⟩ := hd8 hN2 hB2 hO2 hM2 hb2 hBN2 hcell2 hql;obtain ⟨Hnl, Hfx, HN3, Hb12⟩ := hd4 hnl hfx hN3 hb12;clear hb12 hN3 hfx hnl hql hcell2 hBN2 hb2 hM2 hO2 hB2 hN2;go_wp2_with fail
       go_roundg (gk - 1)
       case measure => omega
       case rel => exact ⟨k + 1, by omega, by simp, HN3, HB2, HM2, HO2, Hb2⟩
      ·have hqlp : 0 < ql := by rw [<- hql]; exact List.length_pos_iff.2 hnl
       have hN3 := hN2.setj (j := 10) (u := .int .i64 ((k : Int) + 1)) (y := ⟨op, byo, d, e, a, b, f, cell, imm, args, (k : Int) + 1, els⟩) Hmx.out Hml.out (by omega) (fun _ => rfl) rfl;have hB3 := hB2.far (p := ⟨OG, k * 12 + 10, none⟩) HlOG.out (.int .i64 ((k : Int) + 1));have hO3 := hO2.far (p := ⟨OG, k * 12 + 10, none⟩) HWOG.out (.int .i64 ((k : Int) + 1));have hM3 := hM2.set (p := ⟨OG, k * 12 + 10, none⟩) (HMne.out 0) (.int .i64 ((k : Int) + 1));have hb3 := hb2.setCell (p := ⟨OG, k * 12 + 10, none⟩) (by simp only; omega) (.int .i64 ((k : Int) + 1))
       have c0' : (w2.setCell ⟨OG, k * 12 + 10, none⟩ (.int .i64 ((k : Int) + 1))).cell? ⟨OG, k * 12, none⟩ = some (.int .u8 op) := by
        rw [World.cell?_setCell_other _ _ _ _ (by simp)]; exact c0
       by_cases h9 : op = 9
       ·subst h9;obtain ⟨t, v, htn, htN, hat⟩ := Hline.out.br Hsx.out rfl;simp only at htn;subst htn;rw [Hatf.out] at hat;have hl := hM3.drew.look t (by rw [HN.out] at htN; omega);rw [hat] at hl;have hl : (Instr.lookup 70 (.map (some M)) (.int .i64 t) false).run Try.prog (w2.setCell ⟨OG, k * 12 + 10, none⟩ (.int .i64 ((k : Int) + 1))).drew = .ok (.int .i64 v) (w2.setCell ⟨OG, k * 12 + 10, none⟩ (.int .i64 ((k : Int) + 1))).drew := hl;have hms : ((mixN atf out k).set k ⟨9, byo, d, e, a, b, f, cell, imm, args, (k : Int) + 1, (t : Int)⟩)[k]? = some ⟨9, byo, d, e, a, b, f, cell, imm, args, (k : Int) + 1, (t : Int)⟩ := List.getElem?_set_self (by rw [Hml.out]; exact hkl);obtain ⟨av3, cs3, hBN3, _, hcell3⟩ := hN3.cells hms;have c11 := hcell3 11 _ rfl;have f11 := Blk.frozen hBN3 (k * 12 + 11);have kl1 := hB3.cell 1;simp only [List.getElem?_toArray, List.getElem?_cons_zero, List.getElem?_cons_succ] at kl1;have hN4 := hN3.setj (j := 11) (u := .int .i64 v) (y := ⟨9, byo, d, e, a, b, f, cell, imm, args, (k : Int) + 1, v⟩) hms (by rw [List.length_set]; exact Hml.out) (by omega) (fun _ => rfl) rfl
        have hfx : fixN atf k ⟨9, byo, d, e, a, b, f, cell, imm, args, next, (t : Int)⟩ = ⟨9, byo, d, e, a, b, f, cell, imm, args, (k : Int) + 1, v⟩ := by
         unfold fixN;simp [hnl, hat]
        rw [List.set_set, <- hfx, Hfix.out] at hN4;have hB4 := hB3.far (p := ⟨OG, k * 12 + 11, none⟩) HlOG.out (.int .i64 v);have hO4 := hO3.far (p := ⟨OG, k * 12 + 11, none⟩) HWOG.out (.int .i64 v);have hM4 := hM3.set (p := ⟨OG, k * 12 + 11, none⟩) (HMne.out 0) (.int .i64 v);have hb4 := hb3.setCell (p := ⟨OG, k * 12 + 11, none⟩) (by simp only; omega) (.int .i64 v);obtain ⟨HN2, HB2, HO2, HM2, Hb2, HBN2, Hcell2, Hql⟩ := hd8 hN2 hB2 hO2 hM2 hb2 hBN2 hcell2 hql;obtain ⟨Hnl, Hfx, HN3, Hb12, HB3, HO3, HM3, Hb3⟩ := hd8 hnl hfx hN3 hb12 hB3 hO3 hM3 hb3;obtain ⟨Hat, Hms, HBN3, Hcell3, HN4, HB4, HO4, HM4⟩ := hd8 hat hms hBN3 hcell3 hN4 hB4 hO4 hM4;obtain ⟨Hb4, HtN⟩ := hd2 hb4 htN;clear htN hb4 hM4 hO4 hB4 hN4 hcell3 hBN3 hms hat hb3 hM3 hO3 hB3 hb12 hN3 hfx hnl hql hcell2 hBN2 hb2 hM2 hO2 hB2 hN2;go_upto_region 16 with fail;refine wp_region_late (S := fun W => W.cell? ⟨lp, 1, none⟩ = some (.map (some M)) /\ W.cell? ⟨OG, k * 12 + 11, none⟩ = some (.int .i64 t) /\ (Instr.lookup 70 (.map (some M)) (.int .i64 t) false).run Try.prog W = .ok (.int .i64 v) W) #[false, false, false, false, false, false, false, false, false, false, false, false, true] (by kernel_rfl) ⟨kl1, c11, hl⟩ (fun hHeld => ?_);refine wpAnyL_tk 0 ?_;refine wpAnyL_tk 1 ?_;refine wpAnyL_tk 2 ?_;refine wpAnyL_tk 3 ?_;refine wpAnyL_tk 4 ?_;refine wpAnyL_tk 5 ?_;refine wpAnyL_tk 6 ?_;refine wpAnyL_tk 7 ?_;refine wpAnyL_tk 8 ?_;refine wpAnyL_tk 9 ?_;refine wpAnyL_tk 10 ?_;refine wpAnyL_tk 11 ?_;refine wpAnyL_ls 12 (fun K hK => ?_);go_simp;refine hK.out _ _ ?_;clear hK K hHeld;refine wpAnyL_done (by kernel_rfl) ?_ _;clear c0 c0' c10 f10 c11 f11 hl kl1;go_wp2_with fail
        go_roundg (gk - 1)
        case measure => omega
        case rel => exact ⟨k + 1, by omega, by simp, HN4, HB4, HM4, HO4, Lib.hid Hb4.out.drew⟩
       ·have hq9 : (op == 9) = false := by simp [h9]
        have hfx : fixN atf k ⟨op, byo, d, e, a, b, f, cell, imm, args, next, els⟩ = ⟨op, byo, d, e, a, b, f, cell, imm, args, (k : Int) + 1, els⟩ := by
         unfold fixN;simp only [if_neg h10, if_neg hnl, if_neg h9]
        rw [<- hfx, Hfix.out] at hN3;obtain ⟨HN2, HB2, HO2, HM2, Hb2, HBN2, Hcell2, Hql⟩ := hd8 hN2 hB2 hO2 hM2 hb2 hBN2 hcell2 hql;obtain ⟨Hnl, Hfx, HN3, Hb12, HB3, HO3, HM3, Hb3⟩ := hd8 hnl hfx hN3 hb12 hB3 hO3 hM3 hb3;clear hb3 hM3 hO3 hB3 hb12 hN3 hfx hnl hql hcell2 hBN2 hb2 hM2 hO2 hB2 hN2;go_wp2_with fail
        go_roundg (gk - 1)
        case measure => omega
        case rel => exact ⟨k + 1, by omega, by simp, HN3, HB3, HM3, HO3, Hb3⟩
    ·obtain rfl : k = ol := by omega
     have hfin : NodesOwn wr M (.slice (some ⟨OG, 0, none⟩) k oc) (lineN ns entry) := by
      have h1 := hNk.out;rw [<- hol.out, mix_all, <- Houte.out, <- Hatf.out] at h1
      have h2 : lineN ns entry = s.out.mapIdx (fixN s.at_) := by
       unfold lineN;rw [HS.out]
      rw [h2];rw [<- hol.out, <- Houte.out];exact h1
     have hOG : lineG g = ⟨g.params, g.kinds, g.cells, g.init, g.result, g.keep, lineN ns entry, 0⟩ := by
      unfold lineG;rw [Hnse.out, Hentry.out, Int.toNat_natCast]
     have hGq := HG.out.below (hbk.out.mono hBW);have g0 := hGq.c0;have g1 := hGq.c1;have g2 := hGq.c2;have g3 := hGq.c3;have g4 := hGq.c4;have g5 := hGq.c5;have g6 := hGq.c6;have g7 := hGq.c7;have hBk' := hBk.out;have kl2 := bc hBk' 2;have hszq := hbk.out.size;obtain ⟨Q, hQ⟩ := nm (wr.heap.size);obtain ⟨w1, hw1⟩ := nm (wr.alloc (.cells #[.slice PA pl pc, .slice KA kkl kc, .int .i64 g.cells, .slice IA il ic, .bool g.result, .int .i64 g.keep, .slice NA g.nodes.length nc, .int .i64 entry] 48))
     have hP1 : Blk w1 Q 48 #[.slice PA pl pc, .slice KA kkl kc, .int .i64 g.cells, .slice IA il ic, .bool g.result, .int .i64 g.keep, .slice NA g.nodes.length nc, .int .i64 entry] := by rw [hw1, hQ]; exact Blk.new _ _ _
     have hb01 : Below wr.heap.size wr w1 := by rw [hw1]; exact (Below.refl _ _).alloc (Nat.le_refl _) _
     have hb1 := hbk.out.trans (hb01.mono (by omega));have hN1 := hfin.kept (only_of_below hb01 none) (Far.none_ _);have hO1 := hOk.out.below hb01 hOk.out.lt;have hB1 := hBk.out.below hb01 hBk.out.lt;have hOl := hOk.out.lt;have hBkl := hBk.out.lt;rw [Hentry.out] at g7;obtain ⟨Hfin, HOG, HGq, HBk', Hw1, HQ, HP1, Hb01⟩ := hd8 hfin hOG hGq hBk' hw1 hQ hP1 hb01;obtain ⟨Hb1, HN1, HO1, HB1⟩ := hd4 hb1 hN1 hO1 hB1;clear hB1 hO1 hN1 hb1 hb01 hP1 hQ hw1 hBk' hGq hOG hfin;go_upto_region 19 with fail;rw [<- Hw1.out, <- HQ.out];clear g0 g1 g2 g3 g4 g5 g6 g7 kl2;have hG1 := HG.out.below (Hb1.out.mono hBW);have hsz1 := Hb1.out.size;refine wp_region_late (S := fun X => X.cell? ga = some (.slice PA pl pc) /\ X.cell? ⟨ga.block, ga.off + 1, none⟩ = some (.slice KA kkl kc) /\ X.cell? ⟨ga.block, ga.off + 3, none⟩ = some (.slice IA il ic)) #[false, false, false, false, false, false, false, false, false, false, false, false, false, false, false, false, true, true, true, true, true] (by kernel_rfl) ⟨hG1.c0, hG1.c1, hG1.c3⟩ (fun hHeld => ?_);refine wpAnyL_tk 0 ?_;refine wpAnyL_tk 1 ?_;refine wpAnyL_tk 2 ?_;refine wpAnyL_tk 3 ?_;refine wpAnyL_tk 5 ?_;refine wpAnyL_tk 6 ?_;refine wpAnyL_tk 7 ?_;refine wpAnyL_tk 8 ?_;refine wpAnyL_tk 10 ?_;refine wpAnyL_tk 11 ?_;refine wpAnyL_tk 12 ?_;refine wpAnyL_tk 13 ?_;refine wpAnyL_rd 4 (fun K hK => ?_);go_simp;have hlQ : Q < w1.heap.size := HP1.out.lt;refine (clone_ints PA pl pc (g.params.map (Value.int .i64)) w1.drew B (HPr.out.below ((Hb1.out.mono hBW).drew)) (nums_one _ _) hpc1 hpc2 (by show B <= w1.heap.size; omega) hps).mono ?_;rintro e w2 ⟨hb12, PV, px, rfl, hPV⟩;have hb12 := Below.of_drew hb12;have hb12 : Below w1.heap.size w1 w2 := hb12
     have hPV : IntsOwn w2 w1.heap.size (.slice PV pl px) g.params := by unfold IntsOwn; rw [Hpl.out]; exact hPV
     have hb2 := Hb1.out.trans (hb12.mono (by show W <= w1.heap.size; omega));have hG2 := HG.out.below (hb2.mono hBW);have hsz2 : w1.heap.size <= w2.heap.size := hb12.size;refine hK.out _ _ ⟨hG2.c0, hG2.c1, hG2.c3⟩ (fun hHeld2 => ?_);clear hK K hHeld;refine lay ?_;refine wpAnyL_tk 15 ?_;refine wpAnyL_rd 9 (fun K hK => ?_);go_simp;refine (clone_kinds KA kkl kc (g.kinds.map (Value.int .u8)) w2 B (HKr.out.below (hb2.mono hBW)) (nums_one _ _) hkc1 hkc2 (by omega) (by omega)).mono ?_;rintro e w3 ⟨hb23, KV, kx, rfl, hKV⟩
     have hKV : KindsOwn w3 w2.heap.size (.slice KV kkl kx) g.kinds := by unfold KindsOwn; rw [Hkkl.out]; exact hKV
     have hb3 := hb2.trans (hb23.mono (by omega));have hG3 := HG.out.below (hb3.mono hBW);have hsz3 := hb23.size;have hPV3 := IntsOwn.kept hPV (only_of_below hb23 none) (Far.none_ _);refine hK.out _ _ ⟨hG3.c0, hG3.c1, hG3.c3⟩ (fun hHeld3 => ?_);clear hK K hHeld2;refine lay ?_;refine wpAnyL_rd 14 (fun K hK => ?_);go_simp;refine (clone_ints IA il ic (g.init.map (Value.int .i64)) w3 B (HIr.out.below (hb3.mono hBW)) (nums_one _ _) hic1 hic2 (by omega) his).mono ?_;rintro e w4 ⟨hb34, IV, ix, rfl, hIV⟩
     have hIV : IntsOwn w4 w3.heap.size (.slice IV il ix) g.init := by unfold IntsOwn; rw [Hil.out]; exact hIV
     have hb4 := hb3.trans (hb34.mono (by omega));have hG4 := HG.out.below (hb4.mono hBW);have hsz4 := hb34.size;have hPV4 := IntsOwn.kept hPV3 (only_of_below hb34 none) (Far.none_ _);have hKV4 := KindsOwn.kept hKV (only_of_below hb34 none) (Far.none_ _);have hb14 : Below w1.heap.size w1 w4 := (hb12.trans (hb23.mono hsz2)).trans (hb34.mono (by omega));have hP4 := HP1.out.below hb14 hlQ;have hN4 := HN1.out.kept (only_of_below hb14 none) (Far.none_ _);have hO4 := HO1.out.below hb14 HO1.out.lt;have hB4 := HB1.out.below hb14 HB1.out.lt;have f40 := Blk.frozen hP4 0;have f41 := Blk.frozen hP4 1;have f43 := Blk.frozen hP4 3;have k40 := Blk.cell hP4 0;have k41 := Blk.cell hP4 1;have k43 := Blk.cell hP4 3;simp only [List.getElem?_toArray, List.getElem?_cons_zero, List.getElem?_cons_succ] at k40 k41 k43;refine hK.out _ _ ⟨hG4.c0, hG4.c1, hG4.c3⟩ (fun hHeld4 => ?_);clear hK K hHeld3;refine lay ?_;obtain ⟨HG1, HG2, HG3, HG4, Hb12, Hb23, Hb34, Hb2⟩ := hd8 hG1 hG2 hG3 hG4 hb12 hb23 hb34 hb2;obtain ⟨Hb3, Hb4, HPV, HPV3, HKV, HIV, HPV4, HKV4⟩ := hd8 hb3 hb4 hPV hPV3 hKV hIV hPV4 hKV4;obtain ⟨Hb14, HP4, HN4, HO4, HB4⟩ := hd5 hb14 hP4 hN4 hO4 hB4;clear hB4 hO4 hN4 hP4 hb14 hKV4 hPV4 hIV hKV hPV3 hPV hb4 hb3 hb2 hb34 hb23 hb12 hG4 hG3 hG2 hG1;refine wpAnyL_ls 16 (fun K hK => ?_);go_simp;refine hK.out _ _ ?_;clear hK K;refine lay ?_;refine wpAnyL_ls 17 (fun K hK => ?_);go_simp;refine hK.out _ _ ?_;clear hK K;refine lay ?_;refine wpAnyL_ls 18 (fun K hK => ?_);go_simp;refine hK.out _ _ ?_;clear hK K;refine lay ?_;refine wpAnyL_ls 19 (fun K hK => ?_);go_simp;refine hK.out _ _ ?_;clear hK K;refine lay ?_;refine wpAnyL_ls 20 (fun K hK => ?_);go_simp;refine hK.out _ _ ?_;clear hK K hHeld4;refine wpAnyL_done (by kernel_rfl) ?_ _;clear f40 f41 f43 k40 k41 k43
     have hQW : Q ≠ W := by rw [HQ.out]; omega
     have hQlp : lp ≠ Q := by rw [HQ.out]; omega
     have hQwr : W <= Q := by rw [HQ.out]; omega
     obtain ⟨w5, hw5⟩ := nm (((w4.setCell ⟨Q, 0, none⟩ (.slice PV pl px)).setCell ⟨Q, 1, none⟩ (.slice KV kkl kx)).setCell ⟨Q, 3, none⟩ (.slice IV il ix));rw [<- hw5]
     have hg45 : w4.grownBy w5 (some Q) := by
      rw [hw5];exact only_setCell (p := ⟨Q, 3, none⟩) (only_setCell (p := ⟨Q, 1, none⟩) (grown_setCell w4 ⟨Q, 0, none⟩ _) (.inl rfl) _) (.inl rfl) _
     have hP5 : Blk w5 Q 48 #[.slice PV pl px, .slice KV kkl kx, .int .i64 g.cells, .slice IV il ix, .bool g.result, .int .i64 g.keep, .slice NA g.nodes.length nc, .int .i64 entry] := by
      rw [hw5]
      simpa using ((HP4.out.set_ 0 (.slice PV pl px)).set_ 1 (.slice KV kkl kx)).set_ 3 (.slice IV il ix)
     have hfQ : Far w4 (some Q) := Far.blk HP4.out (by decide) (by decide) (by decide);have hPV5 := IntsOwn.kept HPV4.out hg45 hfQ;have hKV5 := KindsOwn.kept HKV4.out hg45 hfQ;have hIV5 := IntsOwn.kept HIV.out hg45 hfQ;have hN5 := HN4.out.kept hg45 hfQ;have hO5 := HO4.out.grown hg45 (fun e => hQW (Option.some.inj e).symm);have hB5 := HB4.out.grown hg45 (fun e => hQlp (Option.some.inj e));have hb5 := Hb4.out.grown hg45 (by have := Hb4.out.size; omega) (fun g e => by injection e with e; omega);have hP6 := hP5.set_ 6 (.slice (some ⟨OG, 0, none⟩) k oc);simp only [List.setIfInBounds_toArray, List.set_cons_zero, List.set_cons_succ] at hP6;have hP7 := hP6.set_ 7 (.int .i64 0);simp only [List.setIfInBounds_toArray, List.set_cons_zero, List.set_cons_succ] at hP7;have hg57 : w5.grownBy ((w5.setCell ⟨Q, 6, none⟩ (.slice (some ⟨OG, 0, none⟩) k oc)).setCell ⟨Q, 7, none⟩ (.int .i64 0)) (some Q) := only_setCell (p := ⟨Q, 7, none⟩) (grown_setCell w5 ⟨Q, 6, none⟩ _) (.inl rfl) _;have kp6 := bc hP5 6;have kr7 := bc hP6 7;have fp6 := Blk.frozen hP5 6;have fr7 := Blk.frozen hP6 7;have kl2 := bc hB5 2;obtain ⟨Hw5, Hg45, HP5, HfQ, HPV5, HKV5, HIV5, HN5⟩ := hd8 hw5 hg45 hP5 hfQ hPV5 hKV5 hIV5 hN5;obtain ⟨HO5, HB5, Hb5, HP6, HP7, Hg57⟩ := hd6 hO5 hB5 hb5 hP6 hP7 hg57;clear hg57 hP7 hP6 hb5 hB5 hO5 hN5 hIV5 hKV5 hPV5 hfQ hP5 hg45 hw5;go_upto_region 21 with fail;obtain ⟨w7, hw7⟩ := nm ((w5.setCell ⟨Q, 6, none⟩ (.slice (some ⟨OG, 0, none⟩) k oc)).setCell ⟨Q, 7, none⟩ (.int .i64 0));rw [<- hw7];rw [<- hw7] at HP7 Hg57;have hfQ5 : Far w5 (some Q) := Far.blk HP5.out (by decide) (by decide) (by decide);have hPV7 := IntsOwn.kept HPV5.out Hg57.out hfQ5;have hKV7 := KindsOwn.kept HKV5.out Hg57.out hfQ5;have hIV7 := IntsOwn.kept HIV5.out Hg57.out hfQ5;have hN7 := HN5.out.kept Hg57.out hfQ5;have hO7 := HO5.out.grown Hg57.out (fun e => hQW (Option.some.inj e).symm);have hb7 := Hb5.out.grown Hg57.out (by have := Hb5.out.size; omega) (fun g e => by injection e with e; omega);have hg9 := octet_grown w7 W (.slice PV pl px) (.slice KV kkl kx) (.int .i64 g.cells) (.slice IV il ix) (.bool g.result) (.int .i64 g.keep) (.slice (some ⟨OG, 0, none⟩) k oc) (.int .i64 0);have hR9 := octet_blk hO7 (.slice PV pl px) (.slice KV kkl kx) (.int .i64 g.cells) (.slice IV il ix) (.bool g.result) (.int .i64 g.keep) (.slice (some ⟨OG, 0, none⟩) k oc) (.int .i64 0);have hb9 := octet_below hb7 (Nat.le_refl W) (.slice PV pl px) (.slice KV kkl kx) (.int .i64 g.cells) (.slice IV il ix) (.bool g.result) (.int .i64 g.keep) (.slice (some ⟨OG, 0, none⟩) k oc) (.int .i64 0);have hfW : Far w7 (some W) := Far.blk hO7 (by decide) (by decide) (by decide)
     have hfinal : LineGot g w (.returned (.agg #[.slice PV pl px, .slice KV kkl kx, .int .i64 g.cells, .slice IV il ix, .bool g.result, .int .i64 g.keep, .slice (some ⟨OG, 0, none⟩) k oc, .int .i64 0])) (octet w7 W (.slice PV pl px) (.slice KV kkl kx) (.int .i64 g.cells) (.slice IV il ix) (.bool g.result) (.int .i64 g.keep) (.slice (some ⟨OG, 0, none⟩) k oc) (.int .i64 0)) := by
      refine ⟨.slice PV pl px, .slice KV kkl kx, .slice IV il ix, .slice (some ⟨OG, 0, none⟩) k oc, by rw [HOG.out]; rfl, ?_, by rw [HWe.out] at hb9 ⊢; exact hb9⟩
      have hle : ∀ x : World, Below W w x -> w.heap.size <= x.heap.size := fun x h => h.size
      refine ⟨_, _, _, _, rfl, ?_, ?_, ?_, ?_⟩
      ·rw [HOG.out]; exact IntsOwn.base (IntsOwn.kept hPV7 hg9 hfW) hsz1
      ·rw [HOG.out]; exact own_base (KindsOwn.kept hKV7 hg9 hfW) (by omega)
      ·rw [HOG.out]; exact IntsOwn.base (IntsOwn.kept hIV7 hg9 hfW) (by omega)
      ·rw [HOG.out]; exact (hN7.kept hg9 hfW).base (by rw [<- HWe.out]; omega)
     have hP7' := HP7.out;have kq0 := bc hP7' 0;have kq1 := bc hP7' 1;have kq2 := bc hP7' 2;have kq3 := bc hP7' 3;have kq4 := bc hP7' 4;have kq5 := bc hP7' 5;have kq6 := bc hP7' 6;have kq7 := bc hP7' 7;have ko0 := bc hO7 0;have ko1 := bc hO7 1;have ko2 := bc hO7 2;have ko3 := bc hO7 3;have ko4 := bc hO7 4;have ko5 := bc hO7 5;have ko6 := bc hO7 6;have ko7 := bc hO7 7;have fo0 := Blk.frozen hO7 0;have fo1 := Blk.frozen hO7 1;have fo2 := Blk.frozen hO7 2;have fo3 := Blk.frozen hO7 3;have fo4 := Blk.frozen hO7 4;have fo5 := Blk.frozen hO7 5;have fo6 := Blk.frozen hO7 6;have fo7 := Blk.frozen hO7 7;clear kp6 kr7 fp6 fr7 kl2;obtain ⟨HP7', Hw7, HfQ5, HPV7, HKV7, HIV7, HN7, HO7⟩ := hd8 hP7' hw7 hfQ5 hPV7 hKV7 hIV7 hN7 hO7;obtain ⟨Hb7, Hg9, HR9, Hb9, HfW, Hfinal⟩ := hd6 hb7 hg9 hR9 hb9 hfW hfinal;clear hfinal hfW hb9 hR9 hg9 hb7 hO7 hN7 hIV7 hKV7 hPV7 hfQ5 hw7 hP7';go_wp2_with fail;refine bodyPost_ret (results_cell_row rfl _ _ W 48 _ (0, 0) _ rfl HR9.out Try.underlying48 rfl (by kernel_rfl)) rfl ?_;exact Hfinal.out
  ·rw [htd] at htv htc hTr;rw [List.length_cons] at htv htc hTr;subst htv;obtain ⟨tad, u, hTA, _, hu, hcu⟩ := hTr.at_ (k := 0) (by omega);subst hTA;simp only [List.map_cons, List.getElem?_cons_zero, Option.some.injEq] at hu;subst hu
   have hcu : wr.cell? tad = some (.int .i64 (i : Nat)) := by simpa [Addr.add] using hcu
   obtain ⟨rl, hrl⟩ := mn (r.length);have hL2 := hLq.out.rest htd;simp only [hrl] at hL2 hTr htc kl3;have hiN : i < N := hokq.out.lt i (by rw [htd]; exact List.mem_cons_self);obtain ⟨m, hbm, hgm⟩ := hbnd.out
   obtain ⟨gk', rfl⟩ : ∃ gk', gk = gk' + 1 := ⟨gk - 1, by have h1 := hbm.todo; have h2 := cardF_le (f := s.at_) ns.length; rw [htd] at h1; rw [HN.out] at h1 h2; simp only [List.length_cons] at h1; omega⟩
   have hwk2 : workF ns gk' (runF ns (N + 1) ⟨s.at_, s.out, r⟩ i) = S := by
    rw [<- hwk.out];simp only [workF, htd, HN.out]
   have hbm2 : Bnd ns (runF ns (N + 1) ⟨s.at_, s.out, r⟩ i) (m + 1) := by
    have := bnd_run Hns.out (ns.length + 1) (s := ⟨s.at_, s.out, r⟩) (i := i) (m := m + 1) ⟨hbm.out, by have h1 := hbm.todo; rw [htd] at h1; simp only [List.length_cons] at h1; show r.length + (m + 1) <= 1 + cardF s.at_ ns.length; omega⟩ (by rw [HN.out]; exact hiN);rw [HN.out] at this;exact this
   have hok2 : LsOk N ⟨s.at_, s.out, r⟩ := ⟨hokq.out.out, by have := hokq.out.todo; rw [htd] at this; simp only [List.length_cons] at this; show r.length <= 1 + cardF s.at_ N; omega, fun j hj => hokq.out.lt j (by rw [htd]; exact List.mem_cons_of_mem _ hj)⟩
   have hblt := hBl.lt;have hszq := hbq.out.size
   have hbnd2 : ∃ m, Bnd ns (runF ns (N + 1) ⟨s.at_, s.out, r⟩ i) m /\ N + 2 <= gk' + m := ⟨m + 1, hbm2, by omega⟩
   obtain ⟨HBl, Htd, HTr, Hwk2, Hbm2, Hok2, Hbm, Hgm⟩ := hd8 hBl htd hTr hwk2 hbm2 hok2 hbm hgm;have Hbnd2 := Lib.hid hbnd2;clear hbnd2 hgm hbm hok2 hbm2 hwk2 hTr htd hBl
   by_cases htc1 : tc = 1
   case' pos =>
    subst htc1
    obtain rfl : rl = 0 := by omega
    have hL3 : LinAt (wr.setCell ⟨lp, 3, none⟩ (.slice (some tad) 0 0)) M lp M ga N ov (.slice (some tad) 0 0) ⟨s.at_, s.out, r⟩ := by simpa using hL2
    obtain ⟨HL2, HL3⟩ := hd2 hL2 hL3;clear hL3 hL2;go_wp2_with fail;obtain ⟨tv2, htv2⟩ := nm (Value.slice (some tad) 0 0);rw [<- htv2];rw [<- htv2] at HL3
   case' neg =>
    have hL3 : LinAt (wr.setCell ⟨lp, 3, none⟩ (.slice (some ⟨tad.block, tad.off + 1, none⟩) rl (tc - 1))) M lp M ga N ov (.slice (some ⟨tad.block, tad.off + 1, none⟩) rl (tc - 1)) ⟨s.at_, s.out, r⟩ := by simpa [htc1, Addr.add] using hL2
    obtain ⟨HL2, HL3⟩ := hd2 hL2 hL3;clear hL3 hL2;go_wp2_with fail;obtain ⟨tv2, htv2⟩ := nm (Value.slice (some ⟨tad.block, tad.off + 1, none⟩) rl (tc - 1));rw [<- htv2];rw [<- htv2] at HL3
   all_goals
    clear kl0 kl1 kl2 kl3 fl3 hcu;have hb8 := hbq.out.setCell (p := ⟨lp, 3, none⟩) (by simp only; omega) tv2;have hO8 := hOq.out.far (p := ⟨lp, 3, none⟩) (by simp only; omega) tv2;have hrun := run_any (base := M) (lp := lp) (M := M) (ov := ov) (tv := tv2) (s := ⟨s.at_, s.out, r⟩) (HG.out.below (hb8.mono (by omega))) (by omega) (by have := HL3.out.map.lt; omega) (by rw [Hnse.out]; exact Hns.out) (by rw [Hnse.out, HN.out]; exact HL3.out) (by rw [Hnse.out, HN.out]; exact Hok2.out) i (by rw [Hnse.out, HN.out]; exact hiN);rw [Hnse.out, HN.out] at hrun;obtain ⟨Hb8, HO8, Htv2⟩ := hd3 hb8 hO8 htv2;clear htv2 hO8 hb8;refine hrun.mono ?_;rintro e w9 ⟨rfl, ⟨ov', tv', hL9⟩, hok9, hb89⟩;have hO9 := HO8.out.below hb89 (by omega);have hb9 := Hb8.out.trans (hb89.mono (by omega));obtain ⟨HL9, Hok9, Hb89, HO9, Hb9⟩ := hd5 hL9 hok9 hb89 hO9 hb9;clear hb9 hO9 hb89 hok9 hL9;go_wp2_with fail
    go_roundg gk'
    case measure => omega
    case rel => exact ⟨_, _, _, HL9, Hwk2, Hbnd2, Hok9, HO9, Hb9⟩
end Go.Proofs.Ytncpehhfjkncoaa
