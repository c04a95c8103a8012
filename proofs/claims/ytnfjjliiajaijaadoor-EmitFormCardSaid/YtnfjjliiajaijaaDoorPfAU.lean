/- Part of the proof, named by its texts: LinLine LinAll. No condition of its own. -/
import Derived.Test.YtnfjjliiajaijaaDoorPfAA
import Derived.Test.YtnfjjliiajaijaaDoorPfAG
import Derived.Test.YtnfjjliiajaijaaDoorPfAQ
set_option linter.unusedVariables false
set_option linter.unusedSimpArgs false
set_option maxRecDepth 100000
set_option maxHeartbeats 16000000
namespace Go.Proofs.YtnfjjliiajaijaaDoor
open Go.RowKit
def zkW (g : zad) (w : World) (e : Ending) (w' : World) : Prop := ∃ pv kv iv nv, e = .returned (.agg (zaH (zaK g) pv kv iv nv).toArray) /\ zbp w' w.heap.size (zaH (zaK g) pv kv iv nv) (zaK g) /\ Below w.heap.size w w'
theorem zlq {w : World} {B : Nat} {ga : Addr} {g : zad} {pv kv iv nv : Value} (hG : zdc w B ga g pv kv iv nv) (hB : B <= w.heap.size) (hns : zjM g.nodes) (he : 0 <= g.entry /\ g.entry < g.nodes.length) (hps : g.params.length * 8 <= 140737488351232) (hks : g.kinds.length <= 140737488351232) (his : g.init.length * 8 <= 140737488351232) :
  Calls Tryd.prog 36 #[.pointer (some ga)] w fun e w' => zkW g w e w' := by
 obtain ⟨entry, hentry⟩ := Int.eq_ofNat_of_zero_le he.1
 have heN : entry < g.nodes.length := by omega
 obtain ⟨NA, nc, rfl, _, _⟩ := hG.nodes.slice;obtain ⟨PA, pc, rfl, hpc1, hpc2, hPr⟩ := hG.params.slice;obtain ⟨KA, kc, rfl, hkc1, hkc2, hKr⟩ := hG.kinds.slice;obtain ⟨IA, ic, rfl, hic1, hic2, hIr⟩ := hG.init.slice;obtain ⟨pl, hpl⟩ := mn (g.params.length);obtain ⟨kkl, hkkl⟩ := mn (g.kinds.length);obtain ⟨il, hil⟩ := mn (g.init.length);rw [hpl] at hPr hpc1 hps hG;rw [hkkl] at hKr hkc1 hks hG;rw [hil] at hIr hic1 his hG;obtain ⟨ns, hnse⟩ := mn (g.nodes);rw [hnse] at hns heN;obtain ⟨N, hN⟩ := mn (ns.length);have hn := hns.len;have heN' := heN;rw [hN] at hn heN;obtain ⟨r0, hr0⟩ := mn (zcU ns entry)
 have hr0N : r0 < N := by rw [<- hr0, <- hN]; exact zeG hns.hop heN'
 have hline := zdG hns heN';obtain ⟨S, hS⟩ := mn (zfB ns entry);rw [hS] at hline;obtain ⟨W, hW⟩ := nm (w.heap.size)
 have hwork : zd3 ns (N + 2) ⟨fun _ => none, [], [r0]⟩ = S := by rw [<- hS, <- hr0, <- hN]; rfl
 have hgl := hG.lt;have g7 := hG.c7;rw [hentry] at g7
 -- the blocks made ahead of the first loop
 have hm0 := zcx.made (w.alloc (.cells #[.slice none 0 0, .slice none 0 0, .int .i64 0, .slice none 0 0, .bool false, .int .i64 0, .slice none 0 0, .int .i64 0] 44));have hmm := @run_makeMap Tryd.prog;obtain ⟨w3, hw3⟩ := nm (((w.alloc (.cells #[.slice none 0 0, .slice none 0 0, .int .i64 0, .slice none 0 0, .bool false, .int .i64 0, .slice none 0 0, .int .i64 0] 44)).alloc (.map #[] 0)).alloc (.cells #[.pointer (some ga), .map (some (w.heap.size + 1)), .slice none 0 0, .slice none 0 0] 121));obtain ⟨HPr, HKr, HIr, Hpl, Hkkl, Hil, HG, Hns⟩ := hd8 hPr hKr hIr hpl hkkl hil hG hns;obtain ⟨Hline, HS, Hwork, Hr0, HN, Hnse, Hm0, He⟩ := hd8 hline hS hwork hr0 hN hnse hm0 he;obtain ⟨Hentry, HeN', Hw3⟩ := hd3 hentry heN' hw3;clear hw3 heN' hentry he hm0 hnse hN hr0 hwork hS hline hns hG hil hkkl hpl hIr hKr hPr;go_enter Tryd.func36, Tryd.ntmps36;go_upto_region 2 with fail;obtain ⟨M, hM⟩ := nm (w.heap.size + 1);obtain ⟨lp, hlp⟩ := nm (w.heap.size + 1 + 1);have hw3' := Hw3.out;rw [<- hlp, <- hM];rw [<- hM] at hw3';rw [<- hw3', <- hW]
 have hB3 : Blk w3 lp 121 #[.pointer (some ga), .map (some M), .slice none 0 0, .slice none 0 0] := by
  rw [hw3'];have := Blk.new ((w.alloc (.cells #[.slice none 0 0, .slice none 0 0, .int .i64 0, .slice none 0 0, .bool false, .int .i64 0, .slice none 0 0, .int .i64 0] 44)).alloc (.map #[] 0)) 121 #[.pointer (some ga), .map (some M), .slice none 0 0, .slice none 0 0];rw [hlp]
  simpa using this
 have hb3 : Below W w w3 := by
  rw [hw3', hW];exact (((Below.refl _ _).alloc (Nat.le_refl _) _).alloc (by simp) _).alloc (by simp; omega) _
 have hM3 : zcx w3 M 0 (fun _ => none) := by
  have h := (Hm0.out.alloc (.cells #[.pointer (some ga), .map (some M), .slice none 0 0, .slice none 0 0] 121))
  rw [hw3', hM];rw [hM] at h
  simpa using h
 have hO3 : Blk w3 W 44 #[.slice none 0 0, .slice none 0 0, .int .i64 0, .slice none 0 0, .bool false, .int .i64 0, .slice none 0 0, .int .i64 0] := by
  rw [hw3', hW];exact ((Blk.new _ _ _).alloc _).alloc _
 have hthr := zd5 hB3 (HG.out.below (hb3.mono (by omega))) (by have := hb3.size; omega) (by rw [Hnse.out]; exact Hns.out.hop) (by rw [Hnse.out, HN.out]; exact hn) entry (by rw [Hnse.out]; exact HeN'.out);rw [Hnse.out, Hr0.out] at hthr;have g7' := hb3.cell (p := ⟨ga.block, ga.off + 7, none⟩) (by simp only; omega);rw [g7] at g7';have hsz3 := hb3.size
 have hlo : M <= lp /\ M <= M := by omega
 have hMl : M < w3.heap.size := hM3.lt;have hlpl : lp < w3.heap.size := hB3.lt
 have hWl : W < lp := by omega
 have hWM : W < M := by omega
 have hBW : B <= W := by omega
 have hWw : W <= w.heap.size := by omega
 obtain ⟨HB3, Hb3, HM3, HO3, Hthr, Hw3', Hlp, HM⟩ := hd8 hB3 hb3 hM3 hO3 hthr hw3' hlp hM;have HWe := Lib.hid hW;clear hW hM hlp hw3' hthr hO3 hM3 hb3 hB3;clear g7;go_wp2_with fail;refine Hthr.out.mono ?_;rintro e w4 ⟨rfl, hb34⟩;have hB5 := (HB3.out.below hb34 hlpl).alloc (.cells #[.int .i64 r0] 3);have hM5 := (HM3.out.below hb34 hMl).alloc (.cells #[.int .i64 r0] 3);have hO5 := (HO3.out.below hb34 HO3.out.lt).alloc (.cells #[.int .i64 r0] 3);have hT5 := Blk.new w4 3 #[.int .i64 r0];have hsz4 := hb34.size;have hb5 := (Hb3.out.trans (hb34.mono (by omega))).alloc (by omega) (.cells #[.int .i64 r0] 3);have f53 := Blk.frozen hB5 3;have k53 := Blk.cell hB5 3;simp only [List.getElem?_toArray, List.getElem?_cons_zero, List.getElem?_cons_succ] at k53;have hT6 := hT5.far (p := ⟨lp, 3, none⟩) (by simp only; omega) (.slice (some ⟨w4.heap.size, 0, none⟩) 1 1);have hO6 := hO5.far (p := ⟨lp, 3, none⟩) (by simp only; omega) (.slice (some ⟨w4.heap.size, 0, none⟩) 1 1);have hB6 := hB5.set_ 3 (.slice (some ⟨w4.heap.size, 0, none⟩) 1 1);have hM6 := hM5.set (p := ⟨lp, 3, none⟩) (hM5.ne_blk hB5) (.slice (some ⟨w4.heap.size, 0, none⟩) 1 1);have hb6 := hb5.setCell (p := ⟨lp, 3, none⟩) (by simp only; omega) (.slice (some ⟨w4.heap.size, 0, none⟩) 1 1)
 have hL6 : zcm ((w4.alloc (.cells #[.int .i64 r0] 3)).setCell ⟨lp, 3, none⟩ (.slice (some ⟨w4.heap.size, 0, none⟩) 1 1)) M lp M ga N (.slice none 0 0) (.slice (some ⟨w4.heap.size, 0, none⟩) 1 1) ⟨fun _ => none, [], [r0]⟩ := by
  refine ⟨by simpa using hB6, by rw [zb2]; exact hM6, zcT.nil _ _ _, ?_, hlo⟩;exact zeD.of_own (n := 1) (c := 1) (zc3 hT6 (by omega) rfl rfl (by unfold maxLen; omega))
 obtain ⟨HB5, HM5, HO5, HT5, Hb5, HT6, HO6, HB6⟩ := hd8 hB5 hM5 hO5 hT5 hb5 hT6 hO6 hB6;obtain ⟨HM6, Hb6, HL6, Hb34⟩ := hd4 hM6 hb6 hL6 hb34;clear hb34 hL6 hb6 hM6 hB6 hO6 hT6 hb5 hT5 hO5 hM5 hB5;clear g7' hmm;go_wp2_with fail;obtain ⟨w6, hw6⟩ := nm ((w4.alloc (.cells #[.int .i64 r0] 3)).setCell ⟨lp, 3, none⟩ (.slice (some ⟨w4.heap.size, 0, none⟩) 1 1));rw [<- hw6];rw [<- hw6] at HO6 Hb6 HL6;have Hw6 := Lib.hid hw6;clear hw6;clear f53 k53 HT6 HB6 HM6 HT5 HB5 HM5 HO5;have hlenN := HN.out
 go_loopg [] (N + 2) (fun gk wr => ∃ (s : LS) (ov tv : Value), Hid (zcm wr M lp M ga N ov tv s) /\ Hid (zd3 ns gk s = S) /\ Hid (∃ m, Bnd ns s m /\ N + 2 <= gk + m) /\ Hid (zl7 N s) /\ Hid (Blk wr W 44 #[.slice none 0 0, .slice none 0 0, .int .i64 0, .slice none 0 0, .bool false, .int .i64 0, .slice none 0 0, .int .i64 0]) /\ Hid (Below W w wr))
 case atStart => exact ⟨_, _, _, HL6, Hwork, Lib.hid ⟨0, ⟨by simp [zb2], by simp [zb2]⟩, by omega⟩, Lib.hid ⟨by simp [zb2], by simp [zb2], fun i hi => by rw [List.mem_singleton] at hi; rw [hi]; exact hr0N⟩, HO6, Hb6⟩
 case round =>
  obtain ⟨s, ov, tv, hLq, hwk, hbnd, hokq, hOq, hbq⟩ := hrel;have hBl := hLq.out.blk;have kl0 := bc hBl 0;have kl1 := bc hBl 1;have kl2 := bc hBl 2;have kl3 := bc hBl 3;have fl3 := Blk.frozen hBl 3;obtain ⟨TA, tc, htv, htc, _, hTr⟩ := hLq.out.todo.form;rw [List.length_map] at htv htc hTr
  rcases htd : s.todo with _ | ⟨i, r⟩
  ·rw [htd] at htv htc;subst htv
   have hsS : s = S := by
    rw [<- hwk.out]
    cases gk with
    | zero => rfl
    | succ k => simp only [zd3, htd]
   subst hsS;have hNO := hLq.out.out.nodes;have hMp := hLq.out.map;obtain ⟨css0, hcl0, hOo0, _⟩ := hNO;obtain ⟨OG, oc, rfl, hOGb, hOGl, hoc1, hoc2⟩ := zbn hOo0 Hline.out.pos;obtain ⟨out, houte⟩ := mn (s.out);obtain ⟨atf, hatf⟩ := mn (s.at_);obtain ⟨ol, hol⟩ := mn (out.length);have hNO := hLq.out.out.nodes;have hoN := Hline.out.len;rw [houte] at hNO hoN;rw [hol] at hNO;rw [houte, hol] at kl2 hoc1 hBl;rw [hatf] at hMp;rw [HN.out] at hoN;rw [hol] at hoN
   have hN0 : za4 wr M (.slice (some ⟨OG, 0, none⟩) ol oc) (zhh atf out 0) := by rw [zln]; exact hNO
   obtain ⟨HBl, Htd, HTr, HNO, HMp, Hcl0, HOo0, Houte⟩ := hd8 hBl htd hTr hNO hMp hcl0 hOo0 houte;obtain ⟨Hatf, hol', HN0⟩ := hd3 hatf hol hN0;clear hN0 hol hatf houte hOo0 hcl0 hMp hNO hTr htd hBl;have hol : Hid (out.length = ol) := hol';clear kl0 kl1 fl3;go_wp2_with fail;clear kl2 kl3
   go_loopg [50] ol (fun gk iv wr => ∃ k : Nat, k + gk = ol /\ iv = .int .i64 k /\ Hid (za4 wr M (.slice (some ⟨OG, 0, none⟩) ol oc) (zhh atf out k)) /\ Hid (Blk wr lp 121 #[.pointer (some ga), .map (some M), .slice (some ⟨OG, 0, none⟩) ol oc, .slice TA 0 tc]) /\ Hid (zcx wr M (zbJ atf N) atf) /\ Hid (Blk wr W 44 #[.slice none 0 0, .slice none 0 0, .int .i64 0, .slice none 0 0, .bool false, .int .i64 0, .slice none 0 0, .int .i64 0]) /\ Hid (Below W w wr))
   case atStart => exact ⟨0, by omega, rfl, HN0, HBl, HMp, hOq, hbq⟩
   case round =>
    obtain ⟨k, hk, rfl, hNk, hBk, hMk, hOk, hbk⟩ := hrel
    by_cases hkl : k < ol
    ·have hBk' := hBk.out;have kl1 := bc hBk' 1;have kl2 := bc hBk' 2
     have hxe : ∃ x, out[k]? = some x := ⟨out[k]'(by have := hol.out; omega), List.getElem?_eq_getElem _⟩
     obtain ⟨x, hx⟩ := hxe;have hmx : (zhh atf out k)[k]? = some x := zms.trans hx;have hml : (zhh atf out k).length = ol := zmr.trans hol.out;obtain ⟨av, cs, hBN, hav, hcell⟩ := hNk.out.cells hmx;have hfix := zlo (at_ := atf) hx;have hlOG : lp ≠ OG := hBk'.ne_ hBN (by decide);have hWOG : W ≠ OG := hOk.out.ne_ hBN (by decide);have hGk := hk
     have hMne : ∀ j, M ≠ (⟨OG, j, none⟩ : Addr).block := fun j => hMk.out.ne_blk hBN
     have hsx : s.out[k]? = some x := by rw [Houte.out]; exact hx
     obtain ⟨op, byo, d, e, a, b, f, cell, imm, args, next, els⟩ := x;have c0 := hcell 0 _ rfl
     by_cases h10 : op = 10
     ·subst h10;obtain ⟨t, v, htn, htN, hat⟩ := Hline.out.nop hsx rfl;simp only at htn;subst htn;rw [Hatf.out] at hat;have hl := hMk.out.drew.look t (by rw [HN.out] at htN; omega);rw [hat] at hl;have hl : (Instr.lookup 64 (.map (some M)) (.int .i64 t) false).run Tryd.prog wr.drew = .ok (.int .i64 v) wr.drew := hl;have c10 := hcell 10 _ rfl;have f10 := Blk.frozen hBN (k * 12 + 10);have hN2 := hNk.out.setj (j := 10) (u := .int .i64 v) (y := ⟨10, byo, d, e, a, b, f, cell, imm, args, v, els⟩) hmx hml (by omega) (fun _ => rfl) rfl
      have hfx : zgM atf k ⟨10, byo, d, e, a, b, f, cell, imm, args, (t : Int), els⟩ = ⟨10, byo, d, e, a, b, f, cell, imm, args, v, els⟩ := by
       simp [zgM, hat]
      rw [<- hfx, hfix] at hN2;have hB2 := hBk.out.far (p := ⟨OG, k * 12 + 10, none⟩) hlOG (.int .i64 v);have hO2 := hOk.out.far (p := ⟨OG, k * 12 + 10, none⟩) hWOG (.int .i64 v);have hM2 := hMk.out.set (p := ⟨OG, k * 12 + 10, none⟩) (hMne _) (.int .i64 v);have hb2 := hbk.out.setCell (p := ⟨OG, k * 12 + 10, none⟩) (by simp only; omega) (.int .i64 v)
      have c0' : (wr.setCell ⟨OG, k * 12 + 10, none⟩ (.int .i64 v)).cell? ⟨OG, k * 12 + 0, none⟩ = some (.int .u8 10) := by
       rw [World.cell?_setCell_other _ _ _ _ (by simp)]; exact c0
      simp only [Nat.add_zero] at c0 c0';obtain ⟨HBk', Hx, Hmx, Hml, HBN, Hav, Hcell, Hfix⟩ := hd8 hBk' hx hmx hml hBN hav hcell hfix;obtain ⟨HlOG, HWOG, HGk, HMne, Hsx, Hat, HN2, Hfx⟩ := hd8 hlOG hWOG hGk hMne hsx hat hN2 hfx;obtain ⟨HB2, HO2, HM2, Hb2, HtN⟩ := hd5 hB2 hO2 hM2 hb2 htN;clear htN hb2 hM2 hO2 hB2 hfx hN2 hat hsx hMne hGk hWOG hlOG hfix hcell hav hBN hml hmx hx hBk';go_upto_region 12 with fail;refine zaf (S := fun W => W.cell? ⟨lp, 1, none⟩ = some (.map (some M)) /\ W.cell? ⟨OG, k * 12 + 10, none⟩ = some (.int .i64 t) /\ (Instr.lookup 64 (.map (some M)) (.int .i64 t) false).run Tryd.prog W = .ok (.int .i64 v) W) #[false, false, false, false, false, false, false, false, false, false, false, false, true] (by kernel_rfl) ⟨kl1, c10, hl⟩ (fun hHeld => ?_);refine zaa 0 ?_;refine zaa 1 ?_;refine zaa 2 ?_;refine zaa 3 ?_;refine zaa 4 ?_;refine zaa 5 ?_;refine zaa 6 ?_;refine zaa 7 ?_;refine zaa 8 ?_;refine zaa 9 ?_;refine zaa 10 ?_;refine zaa 11 ?_;refine zao 12 (fun K hK => ?_);go_simp;refine hK.out _ _ ?_;clear hK K hHeld;refine zai (by kernel_rfl) ?_ _;clear c0 c10 f10 hl kl1 kl2;go_wp2_with fail
      go_roundg (gk - 1)
      case measure => omega
      case rel => exact ⟨k + 1, by omega, by simp, HN2, HB2, HM2, HO2, Lib.hid Hb2.out.drew⟩
     ·have hq10 : (op == 10) = false := by simp [h10]
      have c1 := hcell 1 _ rfl;have c2 := hcell 2 _ rfl;have c3 := hcell 3 _ rfl;have c4 := hcell 4 _ rfl;have c5 := hcell 5 _ rfl;have c6 := hcell 6 _ rfl;have c7 := hcell 7 _ rfl;have c8 := hcell 8 _ rfl;have c9 := hcell 9 _ rfl;have c10 := hcell 10 _ rfl;have c11 := hcell 11 _ rfl;simp only [Nat.add_zero] at c0;obtain ⟨HBk', Hx, Hmx, Hml, HBN, Hav, Hcell, Hfix⟩ := hd8 hBk' hx hmx hml hBN hav hcell hfix;obtain ⟨HlOG, HWOG, HGk, HMne, Hsx⟩ := hd5 hlOG hWOG hGk hMne hsx;clear hsx hMne hGk hWOG hlOG hfix hcell hav hBN hml hmx hx hBk';go_wp2_with fail;refine (zfe wr ⟨op, byo, d, e, a, b, f, cell, imm, args, next, els⟩ av).mono ?_;rintro ee w2 ⟨⟨nv, rfl, hLst⟩, hb12⟩;obtain ⟨QA, qc, rfl, _, _, _⟩ := hLst;clear kl1 kl2 c0 c1 c2 c3 c4 c5 c6 c7 c8 c9 c10 c11;have hN2 := hNk.out.kept (zah hb12 none) (Far.none_ _);have hB2 := hBk.out.below hb12 hBk.out.lt;have hO2 := hOk.out.below hb12 hOk.out.lt;have hM2 := hMk.out.below hb12 hMk.out.lt;have hb2 := hbk.out.trans (hb12.mono (by have := hbk.out.size; omega));obtain ⟨av2, cs2, hBN2, _, hcell2⟩ := hN2.cells Hmx.out;have c0 := hcell2 0 _ rfl;simp only [Nat.add_zero] at c0;have f10 := Blk.frozen hBN2 (k * 12 + 10);have c10 := hcell2 10 _ rfl;obtain ⟨ql, hql⟩ := mn ((zaR ⟨op, byo, d, e, a, b, f, cell, imm, args, next, els⟩).length);rw [hql]
      by_cases hnl : zaR ⟨op, byo, d, e, a, b, f, cell, imm, args, next, els⟩ = []
      ·have hql0 : ql = 0 := by rw [<- hql, hnl]; rfl
       subst hql0
       have h9 : op ≠ 9 := fun h => absurd hnl (zeR h)
       have hq9 : (op == 9) = false := by simp [h9]
       have hfx : zgM atf k ⟨op, byo, d, e, a, b, f, cell, imm, args, next, els⟩ = ⟨op, byo, d, e, a, b, f, cell, imm, args, next, els⟩ := by
        unfold zgM;simp only [if_neg h10, if_pos hnl, if_neg h9]
       have hN3 : za4 w2 M (.slice (some ⟨OG, 0, none⟩) ol oc) (zhh atf out (k + 1)) := by
        rw [<- Hfix.out, hfx, zk5 Hmx.out];exact hN2
       obtain ⟨HN2, HB2, HO2, HM2, Hb2, HBN2, Hcell2, Hql⟩ := hd8 hN2 hB2 hO2 hM2 hb2 hBN2 hcell2 hql;obtain ⟨Hnl, Hfx, HN3, Hb12⟩ := hd4 hnl hfx hN3 hb12;clear hb12 hN3 hfx hnl hql hcell2 hBN2 hb2 hM2 hO2 hB2 hN2;go_wp2_with fail
       go_roundg (gk - 1)
       case measure => omega
       case rel => exact ⟨k + 1, by omega, by simp, HN3, HB2, HM2, HO2, Hb2⟩
      ·have hqlp : 0 < ql := by rw [<- hql]; exact List.length_pos_iff.2 hnl
       have hN3 := hN2.setj (j := 10) (u := .int .i64 ((k : Int) + 1)) (y := ⟨op, byo, d, e, a, b, f, cell, imm, args, (k : Int) + 1, els⟩) Hmx.out Hml.out (by omega) (fun _ => rfl) rfl;have hB3 := hB2.far (p := ⟨OG, k * 12 + 10, none⟩) HlOG.out (.int .i64 ((k : Int) + 1));have hO3 := hO2.far (p := ⟨OG, k * 12 + 10, none⟩) HWOG.out (.int .i64 ((k : Int) + 1));have hM3 := hM2.set (p := ⟨OG, k * 12 + 10, none⟩) (HMne.out 0) (.int .i64 ((k : Int) + 1));have hb3 := hb2.setCell (p := ⟨OG, k * 12 + 10, none⟩) (by simp only; omega) (.int .i64 ((k : Int) + 1))
       have c0' : (w2.setCell ⟨OG, k * 12 + 10, none⟩ (.int .i64 ((k : Int) + 1))).cell? ⟨OG, k * 12, none⟩ = some (.int .u8 op) := by
        rw [World.cell?_setCell_other _ _ _ _ (by simp)]; exact c0
       by_cases h9 : op = 9
       ·subst h9;obtain ⟨t, v, htn, htN, hat⟩ := Hline.out.br Hsx.out rfl;simp only at htn;subst htn;rw [Hatf.out] at hat;have hl := hM3.drew.look t (by rw [HN.out] at htN; omega);rw [hat] at hl;have hl : (Instr.lookup 64 (.map (some M)) (.int .i64 t) false).run Tryd.prog (w2.setCell ⟨OG, k * 12 + 10, none⟩ (.int .i64 ((k : Int) + 1))).drew = .ok (.int .i64 v) (w2.setCell ⟨OG, k * 12 + 10, none⟩ (.int .i64 ((k : Int) + 1))).drew := hl;have hms : ((zhh atf out k).set k ⟨9, byo, d, e, a, b, f, cell, imm, args, (k : Int) + 1, (t : Int)⟩)[k]? = some ⟨9, byo, d, e, a, b, f, cell, imm, args, (k : Int) + 1, (t : Int)⟩ := List.getElem?_set_self (by rw [Hml.out]; exact hkl);obtain ⟨av3, cs3, hBN3, _, hcell3⟩ := hN3.cells hms;have c11 := hcell3 11 _ rfl;have f11 := Blk.frozen hBN3 (k * 12 + 11);have kl1 := hB3.cell 1;simp only [List.getElem?_toArray, List.getElem?_cons_zero, List.getElem?_cons_succ] at kl1;have hN4 := hN3.setj (j := 11) (u := .int .i64 v) (y := ⟨9, byo, d, e, a, b, f, cell, imm, args, (k : Int) + 1, v⟩) hms (by rw [List.length_set]; exact Hml.out) (by omega) (fun _ => rfl) rfl
        have hfx : zgM atf k ⟨9, byo, d, e, a, b, f, cell, imm, args, next, (t : Int)⟩ = ⟨9, byo, d, e, a, b, f, cell, imm, args, (k : Int) + 1, v⟩ := by
         unfold zgM;simp [hnl, hat]
        rw [List.set_set, <- hfx, Hfix.out] at hN4;have hB4 := hB3.far (p := ⟨OG, k * 12 + 11, none⟩) HlOG.out (.int .i64 v);have hO4 := hO3.far (p := ⟨OG, k * 12 + 11, none⟩) HWOG.out (.int .i64 v);have hM4 := hM3.set (p := ⟨OG, k * 12 + 11, none⟩) (HMne.out 0) (.int .i64 v);have hb4 := hb3.setCell (p := ⟨OG, k * 12 + 11, none⟩) (by simp only; omega) (.int .i64 v);obtain ⟨HN2, HB2, HO2, HM2, Hb2, HBN2, Hcell2, Hql⟩ := hd8 hN2 hB2 hO2 hM2 hb2 hBN2 hcell2 hql;obtain ⟨Hnl, Hfx, HN3, Hb12, HB3, HO3, HM3, Hb3⟩ := hd8 hnl hfx hN3 hb12 hB3 hO3 hM3 hb3;obtain ⟨Hat, Hms, HBN3, Hcell3, HN4, HB4, HO4, HM4⟩ := hd8 hat hms hBN3 hcell3 hN4 hB4 hO4 hM4;obtain ⟨Hb4, HtN⟩ := hd2 hb4 htN;clear htN hb4 hM4 hO4 hB4 hN4 hcell3 hBN3 hms hat hb3 hM3 hO3 hB3 hb12 hN3 hfx hnl hql hcell2 hBN2 hb2 hM2 hO2 hB2 hN2;go_upto_region 16 with fail;refine zaf (S := fun W => W.cell? ⟨lp, 1, none⟩ = some (.map (some M)) /\ W.cell? ⟨OG, k * 12 + 11, none⟩ = some (.int .i64 t) /\ (Instr.lookup 64 (.map (some M)) (.int .i64 t) false).run Tryd.prog W = .ok (.int .i64 v) W) #[false, false, false, false, false, false, false, false, false, false, false, false, true] (by kernel_rfl) ⟨kl1, c11, hl⟩ (fun hHeld => ?_);refine zaa 0 ?_;refine zaa 1 ?_;refine zaa 2 ?_;refine zaa 3 ?_;refine zaa 4 ?_;refine zaa 5 ?_;refine zaa 6 ?_;refine zaa 7 ?_;refine zaa 8 ?_;refine zaa 9 ?_;refine zaa 10 ?_;refine zaa 11 ?_;refine zao 12 (fun K hK => ?_);go_simp;refine hK.out _ _ ?_;clear hK K hHeld;refine zai (by kernel_rfl) ?_ _;clear c0 c0' c10 f10 c11 f11 hl kl1;go_wp2_with fail
        go_roundg (gk - 1)
        case measure => omega
        case rel => exact ⟨k + 1, by omega, by simp, HN4, HB4, HM4, HO4, Lib.hid Hb4.out.drew⟩
       ·have hq9 : (op == 9) = false := by simp [h9]
        have hfx : zgM atf k ⟨op, byo, d, e, a, b, f, cell, imm, args, next, els⟩ = ⟨op, byo, d, e, a, b, f, cell, imm, args, (k : Int) + 1, els⟩ := by
         unfold zgM;simp only [if_neg h10, if_neg hnl, if_neg h9]
        rw [<- hfx, Hfix.out] at hN3;obtain ⟨HN2, HB2, HO2, HM2, Hb2, HBN2, Hcell2, Hql⟩ := hd8 hN2 hB2 hO2 hM2 hb2 hBN2 hcell2 hql;obtain ⟨Hnl, Hfx, HN3, Hb12, HB3, HO3, HM3, Hb3⟩ := hd8 hnl hfx hN3 hb12 hB3 hO3 hM3 hb3;clear hb3 hM3 hO3 hB3 hb12 hN3 hfx hnl hql hcell2 hBN2 hb2 hM2 hO2 hB2 hN2;go_wp2_with fail
        go_roundg (gk - 1)
        case measure => omega
        case rel => exact ⟨k + 1, by omega, by simp, HN3, HB3, HM3, HO3, Hb3⟩
    ·obtain rfl : k = ol := by omega
     have hfin : za4 wr M (.slice (some ⟨OG, 0, none⟩) k oc) (zea ns entry) := by
      have h1 := hNk.out;rw [<- hol.out, zmt, <- Houte.out, <- Hatf.out] at h1
      have h2 : zea ns entry = s.out.mapIdx (zgM s.at_) := by
       unfold zea;rw [HS.out]
      rw [h2];rw [<- hol.out, <- Houte.out];exact h1
     have hOG : zaK g = ⟨g.params, g.kinds, g.cells, g.init, g.result, g.keep, zea ns entry, 0⟩ := by
      unfold zaK;rw [Hnse.out, Hentry.out, Int.toNat_natCast]
     have hGq := HG.out.below (hbk.out.mono hBW);have g0 := hGq.c0;have g1 := hGq.c1;have g2 := hGq.c2;have g3 := hGq.c3;have g4 := hGq.c4;have g5 := hGq.c5;have g6 := hGq.c6;have g7 := hGq.c7;have hBk' := hBk.out;have kl2 := bc hBk' 2;have hszq := hbk.out.size;obtain ⟨Q, hQ⟩ := nm (wr.heap.size);obtain ⟨w1, hw1⟩ := nm (wr.alloc (.cells #[.slice PA pl pc, .slice KA kkl kc, .int .i64 g.cells, .slice IA il ic, .bool g.result, .int .i64 g.keep, .slice NA g.nodes.length nc, .int .i64 entry] 44))
     have hP1 : Blk w1 Q 44 #[.slice PA pl pc, .slice KA kkl kc, .int .i64 g.cells, .slice IA il ic, .bool g.result, .int .i64 g.keep, .slice NA g.nodes.length nc, .int .i64 entry] := by rw [hw1, hQ]; exact Blk.new _ _ _
     have hb01 : Below wr.heap.size wr w1 := by rw [hw1]; exact (Below.refl _ _).alloc (Nat.le_refl _) _
     have hb1 := hbk.out.trans (hb01.mono (by omega));have hN1 := hfin.kept (zah hb01 none) (Far.none_ _);have hO1 := hOk.out.below hb01 hOk.out.lt;have hB1 := hBk.out.below hb01 hBk.out.lt;have hOl := hOk.out.lt;have hBkl := hBk.out.lt;rw [Hentry.out] at g7;obtain ⟨Hfin, HOG, HGq, HBk', Hw1, HQ, HP1, Hb01⟩ := hd8 hfin hOG hGq hBk' hw1 hQ hP1 hb01;obtain ⟨Hb1, HN1, HO1, HB1⟩ := hd4 hb1 hN1 hO1 hB1;clear hB1 hO1 hN1 hb1 hb01 hP1 hQ hw1 hBk' hGq hOG hfin;go_upto_region 19 with fail;rw [<- Hw1.out, <- HQ.out];clear g0 g1 g2 g3 g4 g5 g6 g7 kl2;have hG1 := HG.out.below (Hb1.out.mono hBW);have hsz1 := Hb1.out.size;refine zaf (S := fun X => X.cell? ga = some (.slice PA pl pc) /\ X.cell? ⟨ga.block, ga.off + 1, none⟩ = some (.slice KA kkl kc) /\ X.cell? ⟨ga.block, ga.off + 3, none⟩ = some (.slice IA il ic)) #[false, false, false, false, false, false, false, false, false, false, false, false, false, false, false, false, true, true, true, true, true] (by kernel_rfl) ⟨hG1.c0, hG1.c1, hG1.c3⟩ (fun hHeld => ?_);refine zaa 0 ?_;refine zaa 1 ?_;refine zaa 2 ?_;refine zaa 3 ?_;refine zaa 5 ?_;refine zaa 6 ?_;refine zaa 7 ?_;refine zaa 8 ?_;refine zaa 10 ?_;refine zaa 11 ?_;refine zaa 12 ?_;refine zaa 13 ?_;refine zag 4 (fun K hK => ?_);go_simp;have hlQ : Q < w1.heap.size := HP1.out.lt;refine (zeQ PA pl pc (g.params.map (Value.int .i64)) w1.drew B (HPr.out.below ((Hb1.out.mono hBW).drew)) (zbW _ _) hpc1 hpc2 (by show B <= w1.heap.size; omega) hps).mono ?_;rintro e w2 ⟨hb12, PV, px, rfl, hPV⟩;have hb12 := Below.of_drew hb12;have hb12 : Below w1.heap.size w1 w2 := hb12
     have hPV : zat w2 w1.heap.size (.slice PV pl px) g.params := by unfold zat; rw [Hpl.out]; exact hPV
     have hb2 := Hb1.out.trans (hb12.mono (by show W <= w1.heap.size; omega));have hG2 := HG.out.below (hb2.mono hBW);have hsz2 : w1.heap.size <= w2.heap.size := hb12.size;refine hK.out _ _ ⟨hG2.c0, hG2.c1, hG2.c3⟩ (fun hHeld2 => ?_);clear hK K hHeld;refine lay ?_;refine zaa 15 ?_;refine zag 9 (fun K hK => ?_);go_simp;refine (zim KA kkl kc (g.kinds.map (Value.int .u8)) w2 B (HKr.out.below (hb2.mono hBW)) (zbW _ _) hkc1 hkc2 (by omega) (by omega)).mono ?_;rintro e w3 ⟨hb23, KV, kx, rfl, hKV⟩
     have hKV : zaY w3 w2.heap.size (.slice KV kkl kx) g.kinds := by unfold zaY; rw [Hkkl.out]; exact hKV
     have hb3 := hb2.trans (hb23.mono (by omega));have hG3 := HG.out.below (hb3.mono hBW);have hsz3 := hb23.size;have hPV3 := zat.kept hPV (zah hb23 none) (Far.none_ _);refine hK.out _ _ ⟨hG3.c0, hG3.c1, hG3.c3⟩ (fun hHeld3 => ?_);clear hK K hHeld2;refine lay ?_;refine zag 14 (fun K hK => ?_);go_simp;refine (zeQ IA il ic (g.init.map (Value.int .i64)) w3 B (HIr.out.below (hb3.mono hBW)) (zbW _ _) hic1 hic2 (by omega) his).mono ?_;rintro e w4 ⟨hb34, IV, ix, rfl, hIV⟩
     have hIV : zat w4 w3.heap.size (.slice IV il ix) g.init := by unfold zat; rw [Hil.out]; exact hIV
     have hb4 := hb3.trans (hb34.mono (by omega));have hG4 := HG.out.below (hb4.mono hBW);have hsz4 := hb34.size;have hPV4 := zat.kept hPV3 (zah hb34 none) (Far.none_ _);have hKV4 := zaY.kept hKV (zah hb34 none) (Far.none_ _);have hb14 : Below w1.heap.size w1 w4 := (hb12.trans (hb23.mono hsz2)).trans (hb34.mono (by omega));have hP4 := HP1.out.below hb14 hlQ;have hN4 := HN1.out.kept (zah hb14 none) (Far.none_ _);have hO4 := HO1.out.below hb14 HO1.out.lt;have hB4 := HB1.out.below hb14 HB1.out.lt;have f40 := Blk.frozen hP4 0;have f41 := Blk.frozen hP4 1;have f43 := Blk.frozen hP4 3;have k40 := Blk.cell hP4 0;have k41 := Blk.cell hP4 1;have k43 := Blk.cell hP4 3;simp only [List.getElem?_toArray, List.getElem?_cons_zero, List.getElem?_cons_succ] at k40 k41 k43;refine hK.out _ _ ⟨hG4.c0, hG4.c1, hG4.c3⟩ (fun hHeld4 => ?_);clear hK K hHeld3;refine lay ?_;obtain ⟨HG1, HG2, HG3, HG4, Hb12, Hb23, Hb34, Hb2⟩ := hd8 hG1 hG2 hG3 hG4 hb12 hb23 hb34 hb2;obtain ⟨Hb3, Hb4, HPV, HPV3, HKV, HIV, HPV4, HKV4⟩ := hd8 hb3 hb4 hPV hPV3 hKV hIV hPV4 hKV4;obtain ⟨Hb14, HP4, HN4, HO4, HB4⟩ := hd5 hb14 hP4 hN4 hO4 hB4;clear hB4 hO4 hN4 hP4 hb14 hKV4 hPV4 hIV hKV hPV3 hPV hb4 hb3 hb2 hb34 hb23 hb12 hG4 hG3 hG2 hG1;refine zao 16 (fun K hK => ?_);go_simp;refine hK.out _ _ ?_;clear hK K;refine lay ?_;refine zao 17 (fun K hK => ?_);go_simp;refine hK.out _ _ ?_;clear hK K;refine lay ?_;refine zao 18 (fun K hK => ?_);go_simp;refine hK.out _ _ ?_;clear hK K;refine lay ?_;refine zao 19 (fun K hK => ?_);go_simp;refine hK.out _ _ ?_;clear hK K;refine lay ?_;refine zao 20 (fun K hK => ?_);go_simp;refine hK.out _ _ ?_;clear hK K hHeld4;refine zai (by kernel_rfl) ?_ _;clear f40 f41 f43 k40 k41 k43
     have hQW : Q ≠ W := by rw [HQ.out]; omega
     have hQlp : lp ≠ Q := by rw [HQ.out]; omega
     have hQwr : W <= Q := by rw [HQ.out]; omega
     obtain ⟨w5, hw5⟩ := nm (((w4.setCell ⟨Q, 0, none⟩ (.slice PV pl px)).setCell ⟨Q, 1, none⟩ (.slice KV kkl kx)).setCell ⟨Q, 3, none⟩ (.slice IV il ix));rw [<- hw5]
     have hg45 : w4.grownBy w5 (some Q) := by
      rw [hw5];exact zaZ (p := ⟨Q, 3, none⟩) (zaZ (p := ⟨Q, 1, none⟩) (zar w4 ⟨Q, 0, none⟩ _) (.inl rfl) _) (.inl rfl) _
     have hP5 : Blk w5 Q 44 #[.slice PV pl px, .slice KV kkl kx, .int .i64 g.cells, .slice IV il ix, .bool g.result, .int .i64 g.keep, .slice NA g.nodes.length nc, .int .i64 entry] := by
      rw [hw5]
      simpa using ((HP4.out.set_ 0 (.slice PV pl px)).set_ 1 (.slice KV kkl kx)).set_ 3 (.slice IV il ix)
     have hfQ : Far w4 (some Q) := Far.blk HP4.out (by decide) (by decide) (by decide);have hPV5 := zat.kept HPV4.out hg45 hfQ;have hKV5 := zaY.kept HKV4.out hg45 hfQ;have hIV5 := zat.kept HIV.out hg45 hfQ;have hN5 := HN4.out.kept hg45 hfQ;have hO5 := HO4.out.grown hg45 (fun e => hQW (Option.some.inj e).symm);have hB5 := HB4.out.grown hg45 (fun e => hQlp (Option.some.inj e));have hb5 := Hb4.out.grown hg45 (by have := Hb4.out.size; omega) (fun g e => by injection e with e; omega);have hP6 := hP5.set_ 6 (.slice (some ⟨OG, 0, none⟩) k oc);simp only [List.setIfInBounds_toArray, List.set_cons_zero, List.set_cons_succ] at hP6;have hP7 := hP6.set_ 7 (.int .i64 0);simp only [List.setIfInBounds_toArray, List.set_cons_zero, List.set_cons_succ] at hP7;have hg57 : w5.grownBy ((w5.setCell ⟨Q, 6, none⟩ (.slice (some ⟨OG, 0, none⟩) k oc)).setCell ⟨Q, 7, none⟩ (.int .i64 0)) (some Q) := zaZ (p := ⟨Q, 7, none⟩) (zar w5 ⟨Q, 6, none⟩ _) (.inl rfl) _;have kp6 := bc hP5 6;have kr7 := bc hP6 7;have fp6 := Blk.frozen hP5 6;have fr7 := Blk.frozen hP6 7;have kl2 := bc hB5 2;obtain ⟨Hw5, Hg45, HP5, HfQ, HPV5, HKV5, HIV5, HN5⟩ := hd8 hw5 hg45 hP5 hfQ hPV5 hKV5 hIV5 hN5;obtain ⟨HO5, HB5, Hb5, HP6, HP7, Hg57⟩ := hd6 hO5 hB5 hb5 hP6 hP7 hg57;clear hg57 hP7 hP6 hb5 hB5 hO5 hN5 hIV5 hKV5 hPV5 hfQ hP5 hg45 hw5;go_upto_region 21 with fail;obtain ⟨w7, hw7⟩ := nm ((w5.setCell ⟨Q, 6, none⟩ (.slice (some ⟨OG, 0, none⟩) k oc)).setCell ⟨Q, 7, none⟩ (.int .i64 0));rw [<- hw7];rw [<- hw7] at HP7 Hg57;have hfQ5 : Far w5 (some Q) := Far.blk HP5.out (by decide) (by decide) (by decide);have hPV7 := zat.kept HPV5.out Hg57.out hfQ5;have hKV7 := zaY.kept HKV5.out Hg57.out hfQ5;have hIV7 := zat.kept HIV5.out Hg57.out hfQ5;have hN7 := HN5.out.kept Hg57.out hfQ5;have hO7 := HO5.out.grown Hg57.out (fun e => hQW (Option.some.inj e).symm);have hb7 := Hb5.out.grown Hg57.out (by have := Hb5.out.size; omega) (fun g e => by injection e with e; omega);have hg9 := zh2 w7 W (.slice PV pl px) (.slice KV kkl kx) (.int .i64 g.cells) (.slice IV il ix) (.bool g.result) (.int .i64 g.keep) (.slice (some ⟨OG, 0, none⟩) k oc) (.int .i64 0);have hR9 := zke hO7 (.slice PV pl px) (.slice KV kkl kx) (.int .i64 g.cells) (.slice IV il ix) (.bool g.result) (.int .i64 g.keep) (.slice (some ⟨OG, 0, none⟩) k oc) (.int .i64 0);have hb9 := zh3 hb7 (Nat.le_refl W) (.slice PV pl px) (.slice KV kkl kx) (.int .i64 g.cells) (.slice IV il ix) (.bool g.result) (.int .i64 g.keep) (.slice (some ⟨OG, 0, none⟩) k oc) (.int .i64 0);have hfW : Far w7 (some W) := Far.blk hO7 (by decide) (by decide) (by decide)
     have hfinal : zkW g w (.returned (.agg #[.slice PV pl px, .slice KV kkl kx, .int .i64 g.cells, .slice IV il ix, .bool g.result, .int .i64 g.keep, .slice (some ⟨OG, 0, none⟩) k oc, .int .i64 0])) (zla w7 W (.slice PV pl px) (.slice KV kkl kx) (.int .i64 g.cells) (.slice IV il ix) (.bool g.result) (.int .i64 g.keep) (.slice (some ⟨OG, 0, none⟩) k oc) (.int .i64 0)) := by
      refine ⟨.slice PV pl px, .slice KV kkl kx, .slice IV il ix, .slice (some ⟨OG, 0, none⟩) k oc, by rw [HOG.out]; rfl, ?_, by rw [HWe.out] at hb9 ⊢; exact hb9⟩
      have hle : ∀ x : World, Below W w x -> w.heap.size <= x.heap.size := fun x h => h.size
      refine ⟨_, _, _, _, rfl, ?_, ?_, ?_, ?_⟩
      ·rw [HOG.out]; exact zat.base (zat.kept hPV7 hg9 hfW) hsz1
      ·rw [HOG.out]; exact zbD (zaY.kept hKV7 hg9 hfW) (by omega)
      ·rw [HOG.out]; exact zat.base (zat.kept hIV7 hg9 hfW) (by omega)
      ·rw [HOG.out]; exact (hN7.kept hg9 hfW).base (by rw [<- HWe.out]; omega)
     have hP7' := HP7.out;have kq0 := bc hP7' 0;have kq1 := bc hP7' 1;have kq2 := bc hP7' 2;have kq3 := bc hP7' 3;have kq4 := bc hP7' 4;have kq5 := bc hP7' 5;have kq6 := bc hP7' 6;have kq7 := bc hP7' 7;have ko0 := bc hO7 0;have ko1 := bc hO7 1;have ko2 := bc hO7 2;have ko3 := bc hO7 3;have ko4 := bc hO7 4;have ko5 := bc hO7 5;have ko6 := bc hO7 6;have ko7 := bc hO7 7;have fo0 := Blk.frozen hO7 0;have fo1 := Blk.frozen hO7 1;have fo2 := Blk.frozen hO7 2;have fo3 := Blk.frozen hO7 3;have fo4 := Blk.frozen hO7 4;have fo5 := Blk.frozen hO7 5;have fo6 := Blk.frozen hO7 6;have fo7 := Blk.frozen hO7 7;clear kp6 kr7 fp6 fr7 kl2;obtain ⟨HP7', Hw7, HfQ5, HPV7, HKV7, HIV7, HN7, HO7⟩ := hd8 hP7' hw7 hfQ5 hPV7 hKV7 hIV7 hN7 hO7;obtain ⟨Hb7, Hg9, HR9, Hb9, HfW, Hfinal⟩ := hd6 hb7 hg9 hR9 hb9 hfW hfinal;clear hfinal hfW hb9 hR9 hg9 hb7 hO7 hN7 hIV7 hKV7 hPV7 hfQ5 hw7 hP7';go_wp2_with fail;refine bodyPost_ret (results_cell_row rfl _ _ W 44 _ (0, 0) _ rfl HR9.out Tryd.underlying44 rfl (by kernel_rfl)) rfl ?_;exact Hfinal.out
  ·rw [htd] at htv htc hTr;rw [List.length_cons] at htv htc hTr;subst htv;obtain ⟨tad, u, hTA, _, hu, hcu⟩ := hTr.at_ (k := 0) (by omega);subst hTA;simp only [List.map_cons, List.getElem?_cons_zero, Option.some.injEq] at hu;subst hu
   have hcu : wr.cell? tad = some (.int .i64 (i : Nat)) := by simpa [Addr.add] using hcu
   obtain ⟨rl, hrl⟩ := mn (r.length);have hL2 := hLq.out.rest htd;simp only [hrl] at hL2 hTr htc kl3;have hiN : i < N := hokq.out.lt i (by rw [htd]; exact List.mem_cons_self);obtain ⟨m, hbm, hgm⟩ := hbnd.out
   obtain ⟨gk', rfl⟩ : ∃ gk', gk = gk' + 1 := ⟨gk - 1, by have h1 := hbm.todo; have h2 := zcE (f := s.at_) ns.length; rw [htd] at h1; rw [HN.out] at h1 h2; simp only [List.length_cons] at h1; omega⟩
   have hwk2 : zd3 ns gk' (zeC ns (N + 1) ⟨s.at_, s.out, r⟩ i) = S := by
    rw [<- hwk.out];simp only [zd3, htd, HN.out]
   have hbm2 : Bnd ns (zeC ns (N + 1) ⟨s.at_, s.out, r⟩ i) (m + 1) := by
    have := zgR Hns.out (ns.length + 1) (s := ⟨s.at_, s.out, r⟩) (i := i) (m := m + 1) ⟨hbm.out, by have h1 := hbm.todo; rw [htd] at h1; simp only [List.length_cons] at h1; show r.length + (m + 1) <= 1 + zbJ s.at_ ns.length; omega⟩ (by rw [HN.out]; exact hiN);rw [HN.out] at this;exact this
   have hok2 : zl7 N ⟨s.at_, s.out, r⟩ := ⟨hokq.out.out, by have := hokq.out.todo; rw [htd] at this; simp only [List.length_cons] at this; show r.length <= 1 + zbJ s.at_ N; omega, fun j hj => hokq.out.lt j (by rw [htd]; exact List.mem_cons_of_mem _ hj)⟩
   have hblt := hBl.lt;have hszq := hbq.out.size
   have hbnd2 : ∃ m, Bnd ns (zeC ns (N + 1) ⟨s.at_, s.out, r⟩ i) m /\ N + 2 <= gk' + m := ⟨m + 1, hbm2, by omega⟩
   obtain ⟨HBl, Htd, HTr, Hwk2, Hbm2, Hok2, Hbm, Hgm⟩ := hd8 hBl htd hTr hwk2 hbm2 hok2 hbm hgm;have Hbnd2 := Lib.hid hbnd2;clear hbnd2 hgm hbm hok2 hbm2 hwk2 hTr htd hBl
   by_cases htc1 : tc = 1
   case' pos =>
    subst htc1
    obtain rfl : rl = 0 := by omega
    have hL3 : zcm (wr.setCell ⟨lp, 3, none⟩ (.slice (some tad) 0 0)) M lp M ga N ov (.slice (some tad) 0 0) ⟨s.at_, s.out, r⟩ := by simpa using hL2
    obtain ⟨HL2, HL3⟩ := hd2 hL2 hL3;clear hL3 hL2;go_wp2_with fail;obtain ⟨tv2, htv2⟩ := nm (Value.slice (some tad) 0 0);rw [<- htv2];rw [<- htv2] at HL3
   case' neg =>
    have hL3 : zcm (wr.setCell ⟨lp, 3, none⟩ (.slice (some ⟨tad.block, tad.off + 1, none⟩) rl (tc - 1))) M lp M ga N ov (.slice (some ⟨tad.block, tad.off + 1, none⟩) rl (tc - 1)) ⟨s.at_, s.out, r⟩ := by simpa [htc1, Addr.add] using hL2
    obtain ⟨HL2, HL3⟩ := hd2 hL2 hL3;clear hL3 hL2;go_wp2_with fail;obtain ⟨tv2, htv2⟩ := nm (Value.slice (some ⟨tad.block, tad.off + 1, none⟩) rl (tc - 1));rw [<- htv2];rw [<- htv2] at HL3
   all_goals
    clear kl0 kl1 kl2 kl3 fl3 hcu;have hb8 := hbq.out.setCell (p := ⟨lp, 3, none⟩) (by simp only; omega) tv2;have hO8 := hOq.out.far (p := ⟨lp, 3, none⟩) (by simp only; omega) tv2;have hrun := zmh (base := M) (lp := lp) (M := M) (ov := ov) (tv := tv2) (s := ⟨s.at_, s.out, r⟩) (HG.out.below (hb8.mono (by omega))) (by omega) (by have := HL3.out.map.lt; omega) (by rw [Hnse.out]; exact Hns.out) (by rw [Hnse.out, HN.out]; exact HL3.out) (by rw [Hnse.out, HN.out]; exact Hok2.out) i (by rw [Hnse.out, HN.out]; exact hiN);rw [Hnse.out, HN.out] at hrun;obtain ⟨Hb8, HO8, Htv2⟩ := hd3 hb8 hO8 htv2;clear htv2 hO8 hb8;refine hrun.mono ?_;rintro e w9 ⟨rfl, ⟨ov', tv', hL9⟩, hok9, hb89⟩;have hO9 := HO8.out.below hb89 (by omega);have hb9 := Hb8.out.trans (hb89.mono (by omega));obtain ⟨HL9, Hok9, Hb89, HO9, Hb9⟩ := hd5 hL9 hok9 hb89 hO9 hb9;clear hb9 hO9 hb89 hok9 hL9;go_wp2_with fail
    go_roundg gk'
    case measure => omega
    case rel => exact ⟨_, _, _, HL9, Hwk2, Hbnd2, Hok9, HO9, Hb9⟩
def zbk (gs : List zad) : Bool := gs.any fun g => decide (4096 < (zaK g).nodes.length)
def zdH (gs : List zad) : Int := if za3 gs true = true then if zbk gs = true then 31 else 0 else 70
def zfP (gs : List zad) (w : World) (e : Ending) (w' : World) : Prop :=
 Below w.heap.size w w' /\ ((zdH gs ≠ 0 /\ e = .returned (.tuple #[.agg #[.slice none 0 0], .int .i64 (zdH gs)])) ∨
  (zdH gs = 0 /\ ∃ pv css, e = .returned (.tuple #[.agg #[pv], .int .i64 0]) /\ w'.ownsRow w.heap.size 44 8 pv gs.length css.flatten /\ zdx w' w.heap.size css (gs.map zaK)))
theorem zbI {gs : List zad} {b : Bool} (h : za3 gs b = true) : 0 < gs.length /\ gs.length <= 16 := by
 unfold za3 at h
 rcases hg : gs[0]? with _ | g
 ·rw [hg] at h; simp at h
 ·rw [hg] at h;simp only [Bool.and_eq_true, decide_eq_true_eq] at h;exact ⟨(List.getElem?_eq_some_iff.1 hg).1, h.1.1.1.1⟩
theorem zbu {gs : List zad} {b : Bool} (h : za3 gs b = true) {g : zad} (hg : g ∈ gs) : zca g b = true /\ ∀ x ∈ g.nodes, zbg gs g b x = true := by
 unfold za3 at h;simp only [Bool.and_eq_true] at h;exact ⟨List.all_eq_true.1 h.1.2 g hg, fun x hx => List.all_eq_true.1 (List.all_eq_true.1 h.2 g hg) x hx⟩
theorem zjr {g : zad} {b : Bool} (h : zca g b = true) : 0 <= g.entry /\ g.entry < g.nodes.length := by
 unfold zca zgJ at h;simp only [Bool.and_eq_true, decide_eq_true_eq] at h;exact ⟨h.2.1.2, h.2.2⟩
theorem zkg {gs : List zad} {g : zad} {b : Bool} {x : zam} (h : zbg gs g b x = true) : ∀ t ∈ zaR x, 0 <= t /\ t < g.nodes.length := fun t ht => by
 unfold zbg at h;simp only [Bool.and_eq_true] at h;have := List.all_eq_true.1 h.1 t ht
 simpa using this
theorem zge {gs : List zad} (h : za3 gs true = true) (hs : zcO gs) {g : zad} (hg : g ∈ gs) : zjM g.nodes /\ 0 <= g.entry /\ g.entry < g.nodes.length :=
 ⟨⟨(zby (zbu h hg).1).2.2.2, fun x hx => zkg ((zbu h hg).2 x hx), fun x hx => (hs.each g hg).2.2.2.2 x hx⟩, zjr (zbu h hg).1⟩
def zkX (w : World) (R P U : Nat) (gsv : Value) (gs : List zad) (j : Nat) (wr : World) : Prop :=
 ∃ (css : List (List Value)) (pv : Value), wr.ownsRow w.heap.size 44 8 pv j css.flatten /\ zdx wr w.heap.size css ((gs.take j).map zaK) /\ Blk wr U 24 #[pv] /\ Blk wr R 24 #[.slice none 0 0] /\ Blk wr P 24 #[gsv] /\ Below w.heap.size w wr
theorem zbp.forms {w : World} {base : Nat} {g : zad} {pv kv iv nv : Value} (h : zbp w base (zaH g pv kv iv nv) g) : ∃ PA pc KA kc IA ic NA nc, pv = .slice PA g.params.length pc /\ kv = .slice KA g.kinds.length kc /\ iv = .slice IA g.init.length ic /\ nv = .slice NA g.nodes.length nc := by
 obtain ⟨pv', kv', iv', nv', he, h1, h2, h3, css, _, h4, _⟩ := h;unfold zaH at he;injection he with e1 he;injection he with e2 he;injection he with _ he;injection he with e3 he;injection he with _ he;injection he with _ he;injection he with e4 _;subst e1 e2 e3 e4;obtain ⟨PA, pc, e1, _⟩ := zak h1;obtain ⟨KA, kc, e2, _⟩ := zak h2;obtain ⟨IA, ic, e3, _⟩ := zak h3;obtain ⟨NA, nc, e4, _⟩ := zak h4;exact ⟨PA, pc, KA, kc, IA, ic, NA, nc, e1, e2, e3, e4⟩
theorem zjl {w : World} {B : Nat} {gsv : Value} {gs : List zad} (h : zaI w B gsv gs) (hB : B <= w.heap.size) (hs : zcO gs) :
  Calls Tryd.prog 17 #[.agg #[gsv]] w fun e w' => zfP gs w e w' := by
 obtain ⟨P, hP⟩ := nm (w.heap.size);obtain ⟨R, hR⟩ := nm (w.heap.size + 1);obtain ⟨w2, hw2⟩ := nm ((w.alloc (.cells #[gsv] 24)).alloc (.cells #[.slice none 0 0] 24))
 have hP2 : Blk w2 P 24 #[gsv] := by rw [hw2, hP]; exact (Blk.new w _ _).alloc _
 have hR2 : Blk w2 R 24 #[.slice none 0 0] := by rw [hw2, hR]; exact Blk.new2 w _ _ _
 have hb2 : Below w.heap.size w w2 := by rw [hw2]; exact ((Below.refl _ _).alloc (Nat.le_refl _) _).alloc (by simp) _
 have hA2 := h.below (hb2.mono hB);have hsz2 := hb2.size;have hchk := zfL hA2 (by omega) ⟨fun g hg => (hs.each g hg).2.1, fun g hg x hx => by have := (hs.each g hg).2.2.2.2 x hx; omega⟩ true;obtain ⟨GA, gc, rfl, hgc1, hgc2⟩ := hA2.slice;obtain ⟨Z, hZ⟩ := mn (gs.length);obtain ⟨iG, hiG, nz0, nz1, nz2⟩ := info_parts zhs;rw [hZ] at hP2 hchk hA2 hgc1 h;rw [hZ] at hw2 ⊢;have kp0 := bc hP2 0;have kr0 := bc hR2 0;have fr0 := Blk.frozen hR2 0;obtain ⟨HP2, HR2, Hb2, HA2, HZ, Hs, H, Hw2⟩ := hd8 hP2 hR2 hb2 hA2 hZ hs h hw2;have Hchk := Lib.hid hchk;clear hchk hw2 h hs hZ hA2 hb2 hR2 hP2;go_enter Tryd.func17, Tryd.ntmps17;go_upto_region 1 with fail;rw [<- Hw2.out, <- hR, <- hP];obtain ⟨HPe, HRe⟩ := hd2 hP hR;clear hR hP;go_wp2_with fail;refine Hchk.out.mono ?_;rintro e w3 ⟨rfl, hb23⟩;have hP3 := HP2.out.below hb23 HP2.out.lt;have hR3 := HR2.out.below hb23 HR2.out.lt;have hb3 := Hb2.out.trans (hb23.mono (by omega));have hA3 := HA2.out.below (hb23.mono (by omega));have hsz3 := hb3.size;clear kp0 kr0 fr0;have kp0 := bc hP3 0;have kr0 := bc hR3 0;have fr0 := Blk.frozen hR3 0
 by_cases hc : za3 gs true = true
 case neg =>
  rw [if_neg hc];have hR4 := hR3.set_ 0 (.slice none 0 0);simp only [List.setIfInBounds_toArray, List.set_cons_zero] at hR4
  have hpost : zfP gs w (.returned (.tuple #[.agg #[.slice none 0 0], .int .i64 70])) (w3.setCell ⟨R, 0, none⟩ (.slice none 0 0)) := by
   refine ⟨hb3.setCell (p := ⟨R, 0, none⟩) (by rw [HRe.out]; simp) _, .inl ?_⟩;unfold zdH;rw [if_neg hc];exact ⟨by decide, rfl⟩
  obtain ⟨HP3, HR3, Hb3, HA3, Hb23, HR4, Hpost, Hc⟩ := hd8 hP3 hR3 hb3 hA3 hb23 hR4 hpost hc;clear hc hpost hR4 hb23 hA3 hb3 hR3 hP3;go_wp2_with fail;refine bodyPost_ret (za5 rfl _ _ R 24 _ (0, 0) _ rfl HR4.out Tryd.underlying24 (by kernel_rfl)) rfl ?_;exact Hpost.out
 case pos =>
  rw [if_pos hc];have hZ16 := (zbI hc).2;rw [HZ.out] at hZ16;obtain ⟨U, hU⟩ := nm (w3.heap.size)
  have hrel0 : zkX w R P U (.slice GA Z gc) gs 0 (w3.alloc (.cells #[.slice none 0 0] 24)) := by
   refine ⟨[], .slice none 0 0, World.ownsRow_nil _ _ _ _, zdx.nil _ _, by rw [hU]; exact Blk.new _ _ _, hR3.alloc _, hP3.alloc _, hb3.alloc (by omega) _⟩
  have hP4 := hP3.alloc (.cells #[.slice none 0 0] 24);clear kp0 kr0 fr0;have kp0 := bc hP4 0
  have hUw : w.heap.size <= U := by omega
  obtain ⟨HP3, HR3, Hb3, HA3, Hb23, Hc, Hrel0, HP4⟩ := hd8 hP3 hR3 hb3 hA3 hb23 hc hrel0 hP4;clear hP4 hrel0 hc hb23 hA3 hb3 hR3 hP3;go_wp2_with fail;rw [<- hU];have HU := Lib.hid hU;clear hU
  go_loopg [17] Z (fun gk iv wr => ∃ j : Nat, j + gk = Z /\ iv = .int .i64 j /\ Hid (zkX w R P U (.slice GA Z gc) gs j wr) /\ Hid (∀ g ∈ gs.take j, ¬ 4096 < (zaK g).nodes.length))
  case atStart => exact ⟨0, by omega, rfl, Hrel0, Lib.hid (by simp)⟩
  case round =>
   obtain ⟨j, hj, rfl, hrj, hno⟩ := hrel;clear kp0;obtain ⟨css, pv, hown, hgs, hUj, hRj, hPj, hbj⟩ := hrj.out;have hszj := hbj.size;have kp0 := bc hPj 0
   by_cases hjZ : j < Z
   ·obtain ⟨g, hg⟩ : ∃ g, gs[j]? = some g := ⟨_, List.getElem?_eq_getElem (by rw [HZ.out]; exact hjZ)⟩
    have hgm : g ∈ gs := List.mem_of_getElem? hg;obtain ⟨ad, pv0, kv0, iv0, nv0, hGA, _, hM⟩ := (H.out.below (hbj.mono hB)).at_ hg;subst hGA;obtain ⟨k1, k2, k3⟩ := zge Hc.out Hs.out hgm;have hsm := Hs.out.each g hgm;have hline := zlq hM (by omega) k1 ⟨k2, k3⟩ hsm.1 hsm.2.1 hsm.2.2.1;obtain ⟨Hown, Hgs, HUj, HRj, HPj, Hbj, Hg, Hgm⟩ := hd8 hown hgs hUj hRj hPj hbj hg hgm;obtain ⟨HM, Hk1, Hk2, Hk3, Hsm, Hline⟩ := hd6 hM k1 k2 k3 hsm hline;clear hline hsm k3 k2 k1 hM hgm hg hbj hPj hRj hUj hgs hown;go_wp2_with fail;refine Hline.out.mono ?_;rintro e w5 ⟨pv5, kv5, iv5, nv5, rfl, hgo, hb5⟩;obtain ⟨PA, pc, KA, kc, IA, ic, NA, nc, rfl, rfl, rfl, rfl⟩ := hgo.forms;obtain ⟨X, hX⟩ := nm (w5.heap.size);obtain ⟨lg, hlg⟩ := mn (zaK g);rw [hlg] at hgo ⊢;obtain ⟨nl, hnl⟩ := mn (lg.nodes.length);obtain ⟨pl, hpl⟩ := mn (lg.params.length);obtain ⟨kl, hkl⟩ := mn (lg.kinds.length);obtain ⟨il, hil⟩ := mn (lg.init.length);rw [hnl, hpl, hkl, hil] at hgo ⊢;have hb5w := Hbj.out.trans (hb5.mono hszj);have hsz5 := hb5.size;have hU6 := (HUj.out.below hb5 HUj.out.lt).alloc (.cells (zaH lg (.slice PA pl pc) (.slice KA kl kc) (.slice IA il ic) (.slice NA nl nc)).toArray 44);have hR6 := (HRj.out.below hb5 HRj.out.lt).alloc (.cells (zaH lg (.slice PA pl pc) (.slice KA kl kc) (.slice IA il ic) (.slice NA nl nc)).toArray 44);have hP6 := (HPj.out.below hb5 HPj.out.lt).alloc (.cells (zaH lg (.slice PA pl pc) (.slice KA kl kc) (.slice IA il ic) (.slice NA nl nc)).toArray 44);have hX6 := Blk.new w5 44 (zaH lg (.slice PA pl pc) (.slice KA kl kc) (.slice IA il ic) (.slice NA nl nc)).toArray;have hb6 := hb5w.alloc (by omega) (.cells (zaH lg (.slice PA pl pc) (.slice KA kl kc) (.slice IA il ic) (.slice NA nl nc)).toArray 44);have hg5 := (zah hb5 none).trans (World.grownBy_alloc w5 (.cells (zaH lg (.slice PA pl pc) (.slice KA kl kc) (.slice IA il ic) (.slice NA nl nc)).toArray 44) none);have hown6 := zaX Hown.out hg5 nofun;have hgs6 := Hgs.out.kept hg5 (Far.none_ _);have hgo6 := hgo.kept (World.grownBy_alloc w5 (.cells (zaH lg (.slice PA pl pc) (.slice KA kl kc) (.slice IA il ic) (.slice NA nl nc)).toArray 44) none) (Far.none_ _);obtain ⟨w6, hw6⟩ := nm (w5.alloc (.cells (zaH lg (.slice PA pl pc) (.slice KA kl kc) (.slice IA il ic) (.slice NA nl nc)).toArray 44));rw [<- hw6] at hU6 hR6 hP6 hX6 hb6 hg5 hown6 hgs6 hgo6;rw [<- hX] at hX6;simp only [zaH] at hw6 hX6 ⊢;have kx0 := bc hX6 0;have kx1 := bc hX6 1;have kx2 := bc hX6 2;have kx3 := bc hX6 3;have kx4 := bc hX6 4;have kx5 := bc hX6 5;have kx6 := bc hX6 6;have kx7 := bc hX6 7;have ku0 := bc hU6 0;have kr0 := bc hR6 0;have fr0 := Blk.frozen hR6 0;have fu0 := Blk.frozen hU6 0;obtain ⟨PV, pvc, hpv, hpvc1, hpvc2, _⟩ := zak hown6;obtain ⟨Hgo, Hlg, Hnl, Hpl, Hkl, Hil, Hb5w, HU6⟩ := hd8 hgo hlg hnl hpl hkl hil hb5w hU6;obtain ⟨HR6, HP6, HX6, Hb6, Hg5, Hown6, Hgs6, Hgo6⟩ := hd8 hR6 hP6 hX6 hb6 hg5 hown6 hgs6 hgo6;obtain ⟨Hw6, Hb5, HX⟩ := hd3 hw6 hb5 hX;clear hX hb5 hw6 hgo6 hgs6 hown6 hg5 hb6 hX6 hP6 hR6 hU6 hb5w hil hkl hpl hnl hlg hgo
    by_cases ho : 4096 < nl
    ·have hover : zdH gs = 31 := by
      unfold zdH;rw [if_pos Hc.out, if_pos];unfold zbk;rw [List.any_eq_true];refine ⟨g, Hgm.out, ?_⟩;rw [Hlg.out, Hnl.out];exact decide_eq_true ho
     have hoz : (4096 : Int) < nl := by omega
     have hR7 := HR6.out.set_ 0 (.slice none 0 0);simp only [List.setIfInBounds_toArray, List.set_cons_zero] at hR7
     have hpost : zfP gs w (.returned (.tuple #[.agg #[.slice none 0 0], .int .i64 31])) (w6.setCell ⟨R, 0, none⟩ (.slice none 0 0)) := by
      refine ⟨Hb6.out.setCell (p := ⟨R, 0, none⟩) (by rw [HRe.out]; simp) _, .inl ?_⟩;rw [hover];exact ⟨by decide, rfl⟩
     obtain ⟨HR7, Hpost, Hover⟩ := hd3 hR7 hpost hover;clear hover hpost hR7;go_upto_region 9 with fail;rw [<- HX.out, <- Hw6.out];go_wp2_with fail;refine bodyPost_ret (za5 rfl _ _ R 24 _ (0, 0) _ rfl HR7.out Tryd.underlying24 (by kernel_rfl)) rfl ?_;exact Hpost.out
    ·have hoz : ¬ (4096 : Int) < nl := by omega
     subst hpv;go_upto_region 9 with fail;rw [<- HX.out, <- Hw6.out]
     go_wp2_with (first
      | (at_builtin
         refine zau _ rfl (.tmp 31) (.tmp 33) _ rfl w.heap.size 44 iG _ 8 128 Tryd.underlying22 hiG nz0 nz1 nz2 rfl (by omega) (.slice PV j pvc) j css.flatten rfl (Hown6.out.alloc _) (w6.heap.size + 1) (some ⟨w6.heap.size, 0, none⟩) 1 1 (zaH lg (.slice PA pl pc) (.slice KA kl kc) (.slice IA il ic) (.slice NA nl nc)) rfl (zal.newS _ rfl _ _ _ _ _ rfl rfl) ?c1 ?c2 ?c3 ?c4 ?_
         case c1 => intro u hu; simp only [zaH, List.mem_cons, List.not_mem_nil, or_false] at hu; rcases hu with rfl | rfl | rfl | rfl | rfl | rfl | rfl | rfl <;> rfl
         case c2 => simp only [maxLen]; omega
         case c3 => omega
         case c4 => have := Hb6.out.size; simp; omega
         intro v8 w8 hown8 hg8 hat8;obtain ⟨A8, x8, rfl, _⟩ := zak hown8;have hU8 := (HU6.out.alloc _).grown hg8 (fun e => zaq Hown6.out HU6.out (by decide) e.symm);have k80 := Blk.cell hU8 0;have f80 := Blk.frozen hU8 0;simp only [List.getElem?_toArray, List.getElem?_cons_zero] at k80;have Hown8 := Lib.hid hown8;have Hg8 := Lib.hid hg8;have HU8 := Lib.hid hU8
         clear hU8 hat8 hg8 hown8))
     have hg68 : w6.grownBy w8 (Value.slice PV j pvc).ownBlock := (World.grownBy_alloc w6 _ _).trans Hg8.out
     have hfar : Far w6 (Value.slice PV j pvc).ownBlock := fun b e => by
      obtain ⟨cs', h'⟩ := zci Hown6.out e;exact .inr ⟨_, cs', h', by decide, by decide, by decide⟩
     have hfU : Far w8 (some U) := Far.blk HU8.out (by decide) (by decide) (by decide);have hgsU := zar w8 ⟨U, 0, none⟩ (.slice A8 (j + 1) x8)
     have hnPR : some R ≠ (Value.slice PV j pvc).ownBlock := fun e => zaq Hown6.out HR6.out (by decide) e.symm
     have hnPP : some P ≠ (Value.slice PV j pvc).ownBlock := fun e => zaq Hown6.out HP6.out (by decide) e.symm
     have hRU : R ≠ U := by rw [HRe.out, HU.out]; have := HR3.out.lt; have := HRe.out; omega
     have hPU : P ≠ U := by rw [HPe.out, HU.out]; have := HP3.out.lt; have := HPe.out; omega
     have hU9 := HU8.out.set_ 0 (.slice A8 (j + 1) x8);simp only [List.setIfInBounds_toArray, List.set_cons_zero] at hU9;have hR9 := (HR6.out.grown hg68 hnPR).far (p := ⟨U, 0, none⟩) hRU (.slice A8 (j + 1) x8);have hP9 := (HP6.out.grown hg68 hnPP).far (p := ⟨U, 0, none⟩) hPU (.slice A8 (j + 1) x8);have hb8 := Hb6.out.grown hg68 (by have := Hb6.out.size; omega) (fun k e => (Hown6.out.lt k e).1);have hb9 := hb8.setCell (p := ⟨U, 0, none⟩) hUw (.slice A8 (j + 1) x8);have hown9 := ownsRow_setCell_other Hown8.out (a := ⟨U, 0, none⟩) (zaq Hown8.out HU8.out (by decide)) (.slice A8 (j + 1) x8);have hgs9 := (Hgs6.out.kept hg68 hfar).kept hgsU hfU;have hgo9 := ((Hgo6.out.base hszj).kept hg68 hfar).kept hgsU hfU
     have htk : (gs.take (j + 1)).map zaK = (gs.take j).map zaK ++ [lg] := by
      rw [List.take_add_one, Hg.out, List.map_append, <- Hlg.out]; rfl
     have hrel9 : zkX w R P U (.slice (some ad) Z gc) gs (j + 1) (w8.setCell ⟨U, 0, none⟩ (.slice A8 (j + 1) x8)) := by
      refine ⟨css ++ [zaH lg (.slice PA pl pc) (.slice KA kl kc) (.slice IA il ic) (.slice NA nl nc)], .slice A8 (j + 1) x8, ?_, ?_, hU9, hR9, hP9, hb9⟩
      ·rw [List.flatten_append]; simpa using hown9
      ·rw [htk]; exact hgs9.snoc hgo9
     have hno9 : ∀ g ∈ gs.take (j + 1), ¬ 4096 < (zaK g).nodes.length := by
      intro g' hg';rw [List.take_add_one, Hg.out] at hg'
      rcases List.mem_append.1 hg' with h' | h'
      ·exact hno.out g' h'
      ·have e : g' = g := by simpa using h'
       rw [e, Hlg.out, Hnl.out]; exact ho
     obtain ⟨Hrel9, Hno9⟩ := hd2 hrel9 hno9;clear hno9 hrel9
     go_roundg (gk - 1)
     case measure => omega
     case rel => exact ⟨j + 1, by omega, by simp, Hrel9, Hno9⟩
   ·obtain rfl : j = Z := by omega
    have herr : zdH gs = 0 := by
     unfold zdH;rw [if_pos Hc.out, if_neg];intro h0;unfold zbk at h0;rw [List.any_eq_true] at h0;obtain ⟨g, h1, h2⟩ := h0;refine hno.out g ?_ (of_decide_eq_true h2);rw [<- HZ.out, List.take_length]; exact h1
    have hR4 := hRj.set_ 0 pv;simp only [List.setIfInBounds_toArray, List.set_cons_zero] at hR4;have hfR : Far wr (some R) := Far.blk hRj (by decide) (by decide) (by decide)
    have hpost : zfP gs w (.returned (.tuple #[.agg #[pv], .int .i64 0])) (wr.setCell ⟨R, 0, none⟩ pv) := by
     refine ⟨hbj.setCell (p := ⟨R, 0, none⟩) (by rw [HRe.out]; simp) _, .inr ⟨herr, pv, css, rfl, ?_, ?_⟩⟩
     ·rw [HZ.out];exact ownsRow_setCell_other hown (a := ⟨R, 0, none⟩) (zaq hown hRj (by decide)) pv
     ·have h1 := hgs.kept (zar wr ⟨R, 0, none⟩ pv) hfR;rw [<- HZ.out, List.take_length] at h1;exact h1
    have ku0 := bc hUj 0;have kr0 := bc hRj 0;have fr0 := Blk.frozen hRj 0;obtain ⟨PV, pvc, hpv, _⟩ := zak hown;subst hpv;obtain ⟨Hown, Hgs, HUj, HRj, HPj, Hbj, Herr, HR4⟩ := hd8 hown hgs hUj hRj hPj hbj herr hR4;obtain ⟨HfR, Hpost⟩ := hd2 hfR hpost;clear hpost hfR hR4 herr hbj hPj hRj hUj hgs hown;go_wp2_with fail;refine bodyPost_ret (za5 rfl _ _ R 24 _ (0, 0) _ rfl HR4.out Tryd.underlying24 (by kernel_rfl)) rfl ?_;exact Hpost.out
end Go.Proofs.YtnfjjliiajaijaaDoor
