/- Walk of the emitter's loads and stores. Conditions: the emitter lies in memory, places are there. Walk of the emitter's calls of the runtime. Conditions: the emitter lies in memory, places are there. Walk of the emitter's places behind calls. Conditions: the emitter, the graph's kinds and the sets of what lives lie in memory. -/
import Derived.Test.YtnfjjliiajaijaaDoorPkAA
import Derived.Test.YtnfjjliiajaijaaDoorPkAI
set_option linter.unusedVariables false
set_option linter.unusedSimpArgs false
set_option maxRecDepth 100000
set_option maxHeartbeats 10000000
namespace Go.Proofs.YtnfjjliiajaijaaDoor
open Go.RowKit
def EmS.memory (E : EmS) (o d a b : Nat) : EmS :=
 let E1 := ((E.read a 13).nul).jump 8 (regOf a 13) 1048578
 if o = 8 then (E1.read b 15).put [⟨5, 0, regOf a 13, regOf b 15, 0⟩] else (E1.put [⟨4, regOf d 13, regOf a 13, 0, 0⟩]).done d (regOf d 13)
section
variable {w : World} {base : Nat} {X : EmX} {E : EmS} {rest : List It}
theorem memory_em (h : EmAt w base X E rest) (x : NodeD) (av : Value) (o d a b : Nat) (hop : x.op = (o : Int)) (hd : x.op ≠ 8 → x.d = (d : Int)) (ha : x.a = (a : Int)) (hbb : x.op = 8 → x.b = (b : Int)) (hdn : d < 16 + X.ns) (han : a < 16 + X.ns) (hbn : b < 16 + X.ns) (hns : X.ns ≤ 1048576) (hsz : E.sz + 7 ≤ 1099511627776) :
  Calls Tryd.prog 74 #[.pointer (some ⟨X.fp, 0, none⟩), .agg (ncells x av).toArray] w fun e w' => EmGot base X rest w (.tuple #[]) (E.memory o d a b) e w' := by
 obtain ⟨iI, hiI, iz0, iz1, iz2⟩ := info_parts infoIntE
 obtain ⟨NC, hNC⟩ : ∃ NC : Array Value, NC = (ncells x av).toArray := ⟨_, rfl⟩
 rw [← hNC]
 have hNS : NC.size = 12 := by rw [hNC]; rfl
 have hbx := h.box 55 NC
 have hb := (Below.refl base w).alloc h.size (.cells NC 55)
 obtain ⟨N, hN⟩ : ∃ N, N = w.heap.size := ⟨_, rfl⟩
 obtain ⟨w1, hw1⟩ : ∃ w1, w1 = w.alloc (.cells NC 55) := ⟨_, rfl⟩
 rw [← hw1, ← hN] at hbx
 rw [← hw1] at hb
 have g0 : ∀ W : World, Blk W N 55 NC → W.cell? ⟨N, 0, none⟩ = some (.int .u8 (o : Nat)) := fun W hB => node_cell hB hNC 0 (by show some (Value.int .u8 x.op) = _; rw [hop])
 have g4 : ∀ W : World, Blk W N 55 NC → W.cell? ⟨N, 4, none⟩ = some (.int .i64 (a : Nat)) := fun W hB => node_cell hB hNC 4 (by show some (Value.int .i64 x.a) = _; rw [ha])
 have n4 := g4 _ hbx.blk
 have hrd := read_em hbx a 13 han (by omega) hns
 obtain ⟨ra, hra⟩ : ∃ ra, regOf a 13 = ra := ⟨_, rfl⟩
 rw [hra] at hrd
 have hra16 : ra < 16 := by rw [← hra]; exact regOf_lt (by omega) (by omega)
 obtain ⟨R, hR⟩ : ∃ R, E.memory o d a b = R := ⟨_, rfl⟩
 rw [hR]
 obtain ⟨H, Hbx, Hb, HN, Hw1, HNC, Hg0, Hg4⟩ := hd8 h hbx hb hN hw1 hNC g0 g4
 obtain ⟨Hrd, HR, Hra, Hop, Ha, Hd, Hbb⟩ := hd7 hrd hR hra hop ha hd hbb
 clear hbb hd ha hop hra hR hrd g4 g0 hNC hw1 hN hb hbx h
 go_enter Tryd.func74, Tryd.ntmps74
 go_upto_region 1 with fail
 rw [← Hw1.out, ← HN.out]
 go_wp2_with fail
 refine Hrd.out.mono ?_
 rintro e w3 ⟨rfl, hE3, hb13⟩
 have hb3 := Hb.out.trans hb13
 have hs3 : (E.read a 13).sz ≤ E.sz + 1 := sz_read E a 13
 obtain ⟨E3, hE3e⟩ : ∃ E3, E.read a 13 = E3 := ⟨_, rfl⟩
 rw [hE3e] at hE3 hs3
 have hRR := HR.out
 unfold EmS.memory at hRR
 simp only [hE3e, Hra.out] at hRR
 obtain ⟨v, z9, zo, zk⟩ := hE3.drew.nul_
 obtain ⟨ZA, zc, rfl, _⟩ := own_any zo
 replace z9 : w3.cell? ⟨X.fp, 10, none⟩ = some (.slice ZA E3.nulls.length zc) := z9
 obtain ⟨f0, _⟩ := hE3.fn
 obtain ⟨CA, cc, k0⟩ := hE3.code
 have hfpl := hE3.fpb.2.1
 have hepl := hE3.fpb.2.2.2
 have hbs := hE3.size
 have hsE : E3.nulls.length + E3.code.length ≤ E3.sz := by unfold EmS.sz; omega
 clear n4
 obtain ⟨HE3, Hb13, Hb3, HRR, HE3e, Hzo, Hzk⟩ := hd7 hE3 hb13 hb3 hRR hE3e zo zk
 clear zk zo hE3e hRR hb3 hb13 hE3
 go_upto_region 2 with fail
 refine wp_region_late (S := fun W => W.cell? ⟨X.fp, 0, none⟩ = some (.pointer (some ⟨X.ep, 0, none⟩)) ∧ W.cell? ⟨X.fp, 10, none⟩ = some (.slice ZA E3.nulls.length zc) ∧ W.cell? ⟨X.ep, 0, none⟩ = some (.slice CA E3.code.length cc)) #[false, false, false, false, false, false, false, false, false, false, false, false, false, false, false, false, false, true] (by kernel_rfl) ⟨f0, z9, k0⟩ (fun hHeld => ?_)
 refine wpAnyL_tk 0 ?_
 refine wpAnyL_tk 1 ?_
 refine wpAnyL_tk 2 ?_
 refine wpAnyL_tk 3 ?_
 refine wpAnyL_tk 4 ?_
 refine wpAnyL_tk 5 ?_
 refine wpAnyL_tk 6 ?_
 refine wpAnyL_tk 7 ?_
 refine wpAnyL_tk 8 ?_
 refine wpAnyL_tk 9 ?_
 refine wpAnyL_tk 10 ?_
 refine wpAnyL_tk 11 ?_
 refine wpAnyL_tk 12 ?_
 refine wpAnyL_ready (rs := [13]) (by kernel_rfl) (by simp) ?_
 refine AllReadyL.cons rfl (fun K hK => ?_) AllReadyL.nil
 go_simp
 refine hK.out _ _ ⟨(World.cell?_alloc_lt _ _ ⟨X.fp, 0, none⟩ hfpl).trans f0, (World.cell?_alloc_lt _ _ ⟨X.fp, 10, none⟩ hfpl).trans z9, (World.cell?_alloc_lt _ _ ⟨X.ep, 0, none⟩ hepl).trans k0⟩ (fun hHeld2 => ?_)
 clear hK K hHeld
 try simp only [Act.put, List.getElem_toArray, List.getElem_cons_zero, List.getElem_cons_succ, List.setIfInBounds_toArray, List.set_cons_zero, List.set_cons_succ]
 refine wpAnyL_ready (rs := [14]) (by kernel_rfl) (by simp) ?_
 refine AllReadyL.cons rfl (fun K hK => ?_) AllReadyL.nil
 refine step_append_any _ rfl (.tmp 14) (.tmp 23) _ rfl base 3 iI _ 1 8 Tryd.underlying40 hiI iz0 iz1 iz2 rfl (by omega) (.slice ZA E3.nulls.length zc) E3.nulls.length (natV E3.nulls) rfl (Hzo.out.alloc _) (w3.heap.size + 1) (some ⟨w3.heap.size, 0, none⟩) 1 1 [.int .i64 (E3.code.length : Nat)] rfl (Reads.new1 _ _ _) ?c1 ?c2 ?c3 ?c4 ?_
 case c1 => intro u hu; simp at hu; rw [hu]; rfl
 case c2 => simp only [maxLen]; omega
 case c3 => omega
 case c4 => simp; omega
 intro v4 w4 hown4 hg4 hat4
 obtain ⟨A4, c4, rfl, _⟩ := own_any hown4
 have hg4' := (World.grownBy_alloc w3.drew (.cells #[.int .i64 (E3.code.length : Nat)] 3) _).trans hg4
 obtain ⟨zc', zf, zn⟩ := Hzk.out w4 hg4'
 obtain ⟨hE4, hb4⟩ := zn A4 c4 hown4 (by
  rcases hat4 with e | e
  ·exact .inl e
  ·exact .inr fun b hb => by rw [e] at hb; injection hb with hb; simp at hb; simp; omega)
 have y0 := (zc' X.fp (.inl rfl) 0).trans f0
 have y9 := (zc' X.fp (.inl rfl) 10).trans z9
 have ye := (zc' X.ep (.inr rfl) 0).trans k0
 have hjmp := jump_em hE4 8 ra 1048578 (by omega) (by omega) (by rw [sz_nul]; omega)
 refine hK.out _ _ ⟨y0, y9, ye⟩ (fun hHeld3 => ?_)
 clear hK K hHeld2
 obtain ⟨Hzc', HE4, Hb4, Hjmp, Hown4, Hg4, Hg4', Hat4⟩ := hd8 zc' hE4 hb4 hjmp hown4 hg4 hg4' hat4
 have Hzn := Lib.hid zn
 clear zn hat4 hg4' hg4 hown4 hjmp hb4 hE4 zc'
 try simp only [Act.put, List.getElem_toArray, List.getElem_cons_zero, List.getElem_cons_succ, List.setIfInBounds_toArray, List.set_cons_zero, List.set_cons_succ]
 refine wpAnyL_tk 15 ?_
 refine wpAnyL_tk 16 ?_
 refine wpAnyL_ready (rs := [17]) (by kernel_rfl) (by simp) ?_
 refine AllReadyL.last rfl (by kernel_rfl) (fun K hK => ?_) AllReadyL.nil
 go_simp
 refine hK.out _ _ ?_
 clear hK K
 try simp only [Act.put, List.getElem_toArray, List.getElem_cons_zero, List.getElem_cons_succ, List.setIfInBounds_toArray, List.set_cons_zero, List.set_cons_succ]
 refine wpAnyL_done (by kernel_rfl) ?_ _
 clear y0 y9 ye zf f0 z9 k0 hHeld3
 go_wp2_with fail
 refine Hjmp.out.mono ?_
 rintro e w5 ⟨rfl, hE5, hb45⟩
 have hb5 := ((Hb3.out.drew).trans (Hb4.out)).trans hb45
 obtain ⟨E5, hE5e⟩ : ∃ E5, E5 = E3.nul.jump 8 ra 1048578 := ⟨_, rfl⟩
 rw [← hE5e] at hE5 HRR
 have hs5 : E5.sz ≤ E.sz + 4 := by rw [hE5e, sz_jump, sz_nul]; omega
 have q0 := Hg0.out _ hE5.blk
 obtain ⟨f0, _⟩ := hE5.fn
 have hfpl := hE5.fpb.2.1
 have hNl := hE5.blk.lt
 by_cases ho : o = 8
 ·subst ho
  rw [if_pos rfl] at HRR
  have g5 : ∀ W : World, Blk W N 55 NC → W.cell? ⟨N, 5, none⟩ = some (.int .i64 (b : Nat)) := fun W hB => node_cell hB HNC.out 5 (by show some (Value.int .i64 x.b) = _; rw [Hbb.out (by rw [Hop.out]; rfl)])
  have q5 := g5 _ hE5.blk
  obtain ⟨rb, hrb⟩ : ∃ rb, regOf b 15 = rb := ⟨_, rfl⟩
  have hrb16 : rb < 16 := by rw [← hrb]; exact regOf_lt (by omega) (by omega)
  rw [hrb] at HRR
  have hrd2 := read_em hE5.drew b 15 hbn (by omega) hns
  rw [hrb] at hrd2
  obtain ⟨HE5, Hb45, Hb5, HE5e, Hg5, Hrd2⟩ := hd6 hE5 hb45 hb5 hE5e g5 hrd2
  clear hrd2 g5 hE5e hb5 hb45 hE5
  go_upto_region 5 with fail
  refine wp_region_late (S := fun W => W.cell? ⟨X.fp, 0, none⟩ = some (.pointer (some ⟨X.ep, 0, none⟩)) ∧ W.cell? ⟨N, 5, none⟩ = some (.int .i64 (b : Nat))) #[false, false, false, false, false, false, false, false, false, false, false, true] (by kernel_rfl) ⟨f0, q5⟩ (fun hHeld => ?_)
  refine wpAnyL_tk 0 ?_
  refine wpAnyL_tk 1 ?_
  refine wpAnyL_tk 2 ?_
  refine wpAnyL_tk 3 ?_
  refine wpAnyL_tk 4 ?_
  refine wpAnyL_tk 5 ?_
  refine wpAnyL_tk 6 ?_
  refine wpAnyL_tk 7 ?_
  refine wpAnyL_ready (rs := [8]) (by kernel_rfl) (by simp) ?_
  refine AllReadyL.cons rfl (fun K hK => ?_) AllReadyL.nil
  go_simp
  refine Hrd2.out.mono ?_
  rintro e w6 ⟨rfl, hE6, hb56⟩
  obtain ⟨f6, _⟩ := hE6.fn
  have q6 := Hg5.out _ hE6.blk
  have hfpl6 := hE6.fpb.2.1
  have hNl6 := hE6.blk.lt
  have hput := put_em ((hE6).alloc (.cells #[.int .u8 5, .int .i64 0, .int .i64 (ra : Nat), .int .i64 (rb : Nat), .int .i32 0] 71)) (ms := [⟨5, 0, ra, rb, 0⟩]) (c := 1) (Reads.newS _ rfl _ _ _ _ _ rfl rfl) rfl (by have := sz_read E5 b 15; omega)
  have hb6 := ((Hb5.out.drew).trans hb56).alloc hE6.size (.cells #[.int .u8 5, .int .i64 0, .int .i64 (ra : Nat), .int .i64 (rb : Nat), .int .i32 0] 71)
  refine hK.out _ _ ⟨f6, q6⟩ (fun hHeld2 => ?_)
  clear hK K hHeld
  obtain ⟨HE6, Hb56, Hput, Hb6⟩ := hd4 hE6 hb56 hput hb6
  clear hb6 hput hb56 hE6
  try simp only [Act.put, List.getElem_toArray, List.getElem_cons_zero, List.getElem_cons_succ, List.setIfInBounds_toArray, List.set_cons_zero, List.set_cons_succ]
  refine wpAnyL_tk 9 ?_
  refine wpAnyL_ready (rs := [10]) (by kernel_rfl) (by simp) ?_
  refine AllReadyL.cons rfl (fun K hK => ?_) AllReadyL.nil
  go_simp
  refine hK.out _ _ ⟨(World.cell?_alloc_lt _ _ ⟨X.fp, 0, none⟩ hfpl6).trans f6, (World.cell?_alloc_lt _ _ ⟨N, 5, none⟩ hNl6).trans q6⟩ (fun hHeld3 => ?_)
  clear hK K hHeld2
  try simp only [Act.put, List.getElem_toArray, List.getElem_cons_zero, List.getElem_cons_succ, List.setIfInBounds_toArray, List.set_cons_zero, List.set_cons_succ]
  refine wpAnyL_ready (rs := [11]) (by kernel_rfl) (by simp) ?_
  refine AllReadyL.last rfl (by kernel_rfl) (fun K hK => ?_) AllReadyL.nil
  go_simp
  refine Hput.out.mono ?_
  rintro e w7 ⟨rfl, hE7, hb7⟩
  refine hK.out _ _ ?_
  clear hK K
  try simp only [Act.put, List.getElem_toArray, List.getElem_cons_zero, List.getElem_cons_succ, List.setIfInBounds_toArray, List.set_cons_zero, List.set_cons_succ]
  refine wpAnyL_done (by kernel_rfl) ?_ _
  have hfin := Hb6.out.trans hb7
  have hE9 := hE7.drop
  rw [HRR.out] at hE9
  obtain ⟨HE7, Hb7, Hfin, HE9⟩ := hd4 hE7 hb7 hfin hE9
  clear hE9 hfin hb7 hE7
  clear f0 q0 q5 f6 q6
  go_wp2_with fail
  go_end0
  exact ⟨rfl, HE9.out, Hfin.out⟩
 ·rw [if_neg ho] at HRR
  have hz1 : ((o : Int) == 8) = false := by simp; omega
  have hdd := Hd.out (by rw [Hop.out]; omega)
  have g2 : ∀ W : World, Blk W N 55 NC → W.cell? ⟨N, 2, none⟩ = some (.int .i64 (d : Nat)) := fun W hB => node_cell hB HNC.out 2 (by show some (Value.int .i64 x.d) = _; rw [hdd])
  have q2 := g2 _ hE5.blk
  obtain ⟨rd, hrdd⟩ : ∃ rd, regOf d 13 = rd := ⟨_, rfl⟩
  rw [hrdd] at HRR
  have hwr := write_em X.fp d w5
  rw [hrdd] at hwr
  obtain ⟨HE5, Hb45, Hb5, HE5e, Hg2, Hwr, Hdd, Hrdd⟩ := hd8 hE5 hb45 hb5 hE5e g2 hwr hdd hrdd
  have Ho := Lib.hid ho
  clear ho hrdd hdd hwr g2 hE5e hb5 hb45 hE5
  go_wp2_with fail
  refine Hwr.out.mono ?_
  rintro e w6 ⟨rfl, rfl⟩
  have hput := put_em ((HE5.out).alloc (.cells #[.int .u8 4, .int .i64 (rd : Nat), .int .i64 (ra : Nat), .int .i64 0, .int .i32 0] 71)) (ms := [⟨4, rd, ra, 0, 0⟩]) (c := 1) (Reads.newS _ rfl _ _ _ _ _ rfl rfl) rfl (by omega)
  have hb6 := (Hb5.out).alloc HE5.out.size (.cells #[.int .u8 4, .int .i64 (rd : Nat), .int .i64 (ra : Nat), .int .i64 0, .int .i32 0] 71)
  obtain ⟨Hput, Hb6⟩ := hd2 hput hb6
  clear hb6 hput
  go_wp2_with fail
  refine Hput.out.mono ?_
  rintro e w7 ⟨rfl, hE7, hb7⟩
  have q3 := Hg2.out _ hE7.blk
  have hdn2 := done_em hE7 d rd hdn (by rw [sz_put]; simp only [List.length_singleton]; omega) hns
  have hb8 := Hb6.out.trans hb7
  clear q0 q2 f0
  obtain ⟨HE7, Hb7, Hdn2, Hb8⟩ := hd4 hE7 hb7 hdn2 hb8
  clear hb8 hdn2 hb7 hE7
  go_wp2_with fail
  refine Hdn2.out.mono ?_
  rintro e w8 ⟨rfl, hE8, hb9⟩
  have hfin := Hb8.out.trans hb9
  have hE9 := hE8.drop
  rw [HRR.out] at hE9
  obtain ⟨HE8, Hb9, Hfin, HE9⟩ := hd4 hE8 hb9 hfin hE9
  clear hE9 hfin hb9 hE8
  go_wp2_with fail
  go_end0
  exact ⟨rfl, HE9.out, Hfin.out⟩
end
end Go.Proofs.YtnfjjliiajaijaaDoor
namespace Go.Proofs.YtnfjjliiajaijaaDoor
open Go.RowKit
open Go.Maps
def sysImm (o : Nat) : Int := if o = 17 then 2 else if o = 14 then 5 else if o = 18 then 4 else 0
def EmS.system (E : EmS) (o d e a f : Nat) : EmS :=
 if o = 13 then E.put [⟨13, 0, 0, 0, w32 (7 + 256 * (f : Int))⟩]
 else if o = 16 then (E.put [⟨13, regOf d 13, 0, 0, 3⟩]).done d (regOf d 13)
 else if o = 15 then ((E.put [⟨13, regOf d 13, 0, regOf e 15, 6⟩]).done d (regOf d 13)).done e (regOf e 15)
 else (E.read a 13).put [⟨13, 0, regOf a 13, 0, sysImm o⟩]
theorem EmAt.setFirst {w : World} {base g : Nat} {X : EmX} {E : EmS} {t : TypeId} {cs : Array Value} {rest : List It} (h : EmAt w base X E (.blk g t cs :: rest)) (j : Nat) (u : Value) : EmAt (w.setCell ⟨g, j, none⟩ u) base X E (.blk g t (cs.setIfInBounds j u) :: rest) ∧ base ≤ g := by
 obtain ⟨cv, sv, zv, nv, Mc, J, L, lvs, h1, hI⟩ := h
 have hi : (emItems X E cv sv zv nv Mc J L lvs ++ (liveRows E.sites lvs ++ .blk g t cs :: rest))[(emItems X E cv sv zv nv Mc J L lvs).length + (liveRows E.sites lvs).length]? = some (.blk g t cs) := by
  rw [List.getElem?_append_right (by omega), List.getElem?_append_right (by omega)]
  have e : (emItems X E cv sv zv nv Mc J L lvs).length + (liveRows E.sites lvs).length - (emItems X E cv sv zv nv Mc J L lvs).length - (liveRows E.sites lvs).length = 0 := by omega
  rw [e]; rfl
 have hI2 := hI.set_ hi j u
 refine ⟨⟨cv, sv, zv, nv, Mc, J, L, lvs, h1, ?_⟩, (hI.at_ hi).1⟩
 rw [List.set_append_right _ _ (by omega), List.set_append_right _ _ (by omega)] at hI2
 have e : (emItems X E cv sv zv nv Mc J L lvs).length + (liveRows E.sites lvs).length - (emItems X E cv sv zv nv Mc J L lvs).length - (liveRows E.sites lvs).length = 0 := by omega
 rw [e] at hI2
 exact hI2
theorem EmAt.drop' {w : World} {base : Nat} {X : EmX} {E : EmS} {x : It} {rest : List It} (h : EmAt w base X E (x :: rest)) : EmAt w base X E rest := h.drop
section
variable {w : World} {base : Nat} {X : EmX} {E : EmS} {rest : List It}
theorem system_em (h : EmAt w base X E rest) (x : NodeD) (av : Value) (o d e a f : Nat) (hop : x.op = (o : Int)) (ho : 13 ≤ o ∧ o ≤ 18) (hd : x.op = 16 ∨ x.op = 15 → x.d = (d : Int)) (he : x.op = 15 → x.e = (e : Int)) (ha : x.op = 14 ∨ x.op = 17 ∨ x.op = 18 → x.a = (a : Int)) (hf : x.op = 13 → x.f = (f : Int)) (hdn : d < 16 + X.ns) (han : a < 16 + X.ns) (hen : e < 16 + X.ns) (hfn : f ≤ 1048576) (hns : X.ns ≤ 1048576) (hsz : E.sz + 7 ≤ 1099511627776) :
  Calls Tryd.prog 77 #[.pointer (some ⟨X.fp, 0, none⟩), .agg (ncells x av).toArray] w fun e' w' => EmGot base X rest w (.tuple #[]) (E.system o d e a f) e' w' := by
 obtain ⟨NC, hNC⟩ : ∃ NC : Array Value, NC = (ncells x av).toArray := ⟨_, rfl⟩
 rw [← hNC]
 have hNS : NC.size = 12 := by rw [hNC]; rfl
 have hbx := h.box 55 NC
 have hb := (Below.refl base w).alloc h.size (.cells NC 55)
 obtain ⟨N, hN⟩ : ∃ N, N = w.heap.size := ⟨_, rfl⟩
 obtain ⟨w1, hw1⟩ : ∃ w1, w1 = w.alloc (.cells NC 55) := ⟨_, rfl⟩
 rw [← hw1, ← hN] at hbx
 rw [← hw1] at hb
 have hbT := hbx.box 71 #[.int .u8 13, .int .i64 0, .int .i64 0, .int .i64 0, .int .i32 0]
 have hb2 := hb.alloc hbx.size (.cells #[.int .u8 13, .int .i64 0, .int .i64 0, .int .i64 0, .int .i32 0] 71)
 have g0 : ∀ W : World, Blk W N 55 NC → W.cell? ⟨N, 0, none⟩ = some (.int .u8 (o : Nat)) := fun W hB => node_cell hB hNC 0 (by show some (Value.int .u8 x.op) = _; rw [hop])
 obtain ⟨R, hR⟩ : ∃ R, E.system o d e a f = R := ⟨_, rfl⟩
 rw [hR]
 obtain ⟨H, Hbx, Hb, HN, Hw1, HNC, Hg0, Hop⟩ := hd8 h hbx hb hN hw1 hNC g0 hop
 obtain ⟨Ha, Hd, He, Hf, HR⟩ := hd5 ha hd he hf hR
 clear hR hf he hd ha hop g0 hNC hw1 hN hb hbx h
 go_enter Tryd.func77, Tryd.ntmps77
 go_upto_region 1 with fail
 rw [← Hw1.out, ← HN.out]
 go_upto_region 2 with fail
 obtain ⟨T, hT⟩ : ∃ T, T = w1.heap.size := ⟨_, rfl⟩
 obtain ⟨w2, hw2⟩ : ∃ w2, w2 = w1.alloc (.cells #[.int .u8 13, .int .i64 0, .int .i64 0, .int .i64 0, .int .i32 0] 71) := ⟨_, rfl⟩
 rw [← hw2, ← hT] at hbT
 rw [← hw2] at hb2
 rw [← hw2, ← hT]
 have n0 := Hg0.out _ hbT.drop'.blk
 have hR := HR.out
 unfold EmS.system at hR
 clear HR
 obtain ⟨HT, Hw2⟩ := hd2 hT hw2
 clear hw2 hT
 by_cases h13 : o = 13
 ·subst h13
  rw [if_pos rfl] at hR
  have hff := Hf.out Hop.out
  have n6 : w2.cell? ⟨N, 6, none⟩ = some (.int .i64 (f : Nat)) := node_cell hbT.drop'.blk HNC.out 6 (by show some (Value.int .i64 x.f) = _; rw [hff])
  have hww : w32 (7 + 256 * (f : Int)) = 7 + 256 * (f : Int) := by unfold w32; rw [IntKind.wrap_i32]; omega
  rw [hww] at hR
  obtain ⟨hE3, hbT0⟩ := hbT.setFirst 4 (.int .i32 (7 + 256 * (f : Int)))
  simp only [List.setIfInBounds_toArray, List.set_cons_succ, List.set_cons_zero] at hE3
  have hb3 := hb2.setCell (p := ⟨T, 4, none⟩) hbT0 (.int .i32 (7 + 256 * (f : Int)))
  have kT := hbT.blk
  have kt4 := Blk.cell kT 4
  simp only [List.getElem?_toArray, List.getElem?_cons_zero, List.getElem?_cons_succ] at kt4
  have ft4 := Blk.frozen kT 4
  obtain ⟨HbT, Hb2, HR, HE3, Hb3, Hff, HkT, Hww⟩ := hd8 hbT hb2 hR hE3 hb3 hff kT hww
  clear hww kT hff hb3 hE3 hR hb2 hbT
  go_upto_region 8 with fail
  obtain ⟨w3, hw3⟩ : ∃ w3, w3 = w2.setCell ⟨T, 4, none⟩ (.int .i32 (7 + 256 * (f : Int))) := ⟨_, rfl⟩
  rw [← hw3]
  rw [← hw3] at HE3 Hb3
  clear kt4 ft4 n0 n6
  have Hw3 := Lib.hid hw3
  clear hw3
  have kT := HE3.out.blk
  have lT := kT.lt
  obtain ⟨f0, _⟩ := HE3.out.fn
  have hfpl := HE3.out.fpb.2.1
  have kt0 := Blk.cell kT 0
  have kt1 := Blk.cell kT 1
  have kt2 := Blk.cell kT 2
  have kt3 := Blk.cell kT 3
  have kt4 := Blk.cell kT 4
  simp only [List.getElem?_toArray, List.getElem?_cons_zero, List.getElem?_cons_succ] at kt0 kt1 kt2 kt3 kt4
  have hput := put_em ((HE3.out.drew).alloc (.cells #[.int .u8 13, .int .i64 0, .int .i64 0, .int .i64 0, .int .i32 (7 + 256 * (f : Int))] 71)) (ms := [⟨13, 0, 0, 0, 7 + 256 * (f : Int)⟩]) (c := 1) (Reads.newS _ rfl _ _ _ _ _ rfl rfl) rfl (by omega)
  have hb6 := (Hb3.out.drew).alloc HE3.out.drew.size (.cells #[.int .u8 13, .int .i64 0, .int .i64 0, .int .i64 0, .int .i32 (7 + 256 * (f : Int))] 71)
  obtain ⟨Hput, Hb6, HkT⟩ := hd3 hput hb6 kT
  clear kT hb6 hput
  refine wp_region_late (S := fun W => W.cell? ⟨X.fp, 0, none⟩ = some (.pointer (some ⟨X.ep, 0, none⟩)) ∧ W.cell? ⟨T, 0, none⟩ = some (.int .u8 13) ∧ W.cell? ⟨T, 1, none⟩ = some (.int .i64 0) ∧ W.cell? ⟨T, 2, none⟩ = some (.int .i64 0) ∧ W.cell? ⟨T, 3, none⟩ = some (.int .i64 0) ∧ W.cell? ⟨T, 4, none⟩ = some (.int .i32 (7 + 256 * (f : Int)))) #[false, false, false, false, false, false, true] (by kernel_rfl) ⟨f0, kt0, kt1, kt2, kt3, kt4⟩ (fun hHeld => ?_)
  refine wpAnyL_tk 0 ?_
  refine wpAnyL_tk 1 ?_
  refine wpAnyL_tk 2 ?_
  refine wpAnyL_tk 3 ?_
  refine wpAnyL_tk 4 ?_
  refine wpAnyL_ready (rs := [5]) (by kernel_rfl) (by simp) ?_
  refine AllReadyL.cons rfl (fun K hK => ?_) AllReadyL.nil
  go_simp
  refine hK.out _ _ ⟨(World.cell?_alloc_lt _ _ ⟨X.fp, 0, none⟩ hfpl).trans f0, (World.cell?_alloc_lt _ _ ⟨T, 0, none⟩ lT).trans kt0, (World.cell?_alloc_lt _ _ ⟨T, 1, none⟩ lT).trans kt1, (World.cell?_alloc_lt _ _ ⟨T, 2, none⟩ lT).trans kt2, (World.cell?_alloc_lt _ _ ⟨T, 3, none⟩ lT).trans kt3, (World.cell?_alloc_lt _ _ ⟨T, 4, none⟩ lT).trans kt4⟩ (fun hHeld2 => ?_)
  clear hK K hHeld
  try simp only [Act.put, List.getElem_toArray, List.getElem_cons_zero, List.getElem_cons_succ, List.setIfInBounds_toArray, List.set_cons_zero, List.set_cons_succ]
  refine wpAnyL_ready (rs := [6]) (by kernel_rfl) (by simp) ?_
  refine AllReadyL.last rfl (by kernel_rfl) (fun K hK => ?_) AllReadyL.nil
  go_simp
  refine Hput.out.mono ?_
  rintro e7 w7 ⟨rfl, hE7, hb7⟩
  refine hK.out _ _ ?_
  clear hK K
  try simp only [Act.put, List.getElem_toArray, List.getElem_cons_zero, List.getElem_cons_succ, List.setIfInBounds_toArray, List.set_cons_zero, List.set_cons_succ]
  refine wpAnyL_done (by kernel_rfl) ?_ _
  have hfin := Hb6.out.trans hb7
  have hE9 := hE7.drop.drop
  rw [HR.out] at hE9
  obtain ⟨HE7, Hb7, Hfin, HE9⟩ := hd4 hE7 hb7 hfin hE9
  clear hE9 hfin hb7 hE7
  clear kt0 kt1 kt2 kt3 kt4 f0
  go_wp2_with fail
  go_end0
  exact ⟨rfl, HE9.out, Hfin.out⟩
 ·rw [if_neg h13] at hR
  have hz13 : ((o : Int) == 13) = false := by simp; omega
  by_cases h16 : o = 16
  ·subst h16
   rw [if_pos rfl] at hR
   have hdd := Hd.out (.inl Hop.out)
   have g2 : ∀ W : World, Blk W N 55 NC → W.cell? ⟨N, 2, none⟩ = some (.int .i64 (d : Nat)) := fun W hB => node_cell hB HNC.out 2 (by show some (Value.int .i64 x.d) = _; rw [hdd])
   have n2 := g2 _ hbT.drop'.blk
   obtain ⟨rd, hrdd⟩ : ∃ rd, regOf d 13 = rd := ⟨_, rfl⟩
   rw [hrdd] at hR
   have hwr := write_em X.fp d w2
   rw [hrdd] at hwr
   obtain ⟨hE3, hbT0⟩ := hbT.setFirst 1 (.int .i64 (rd : Nat))
   replace hE3 := (hE3.setFirst 4 (.int .i32 3)).1
   simp only [List.setIfInBounds_toArray, List.set_cons_succ, List.set_cons_zero] at hE3
   have hb3 := (hb2.setCell (p := ⟨T, 1, none⟩) hbT0 (.int .i64 (rd : Nat))).setCell (p := ⟨T, 4, none⟩) hbT0 (.int .i32 3)
   have kT := hbT.blk
   have kt1 := Blk.cell kT 1
   have kt4 := Blk.cell kT 4
   simp only [List.getElem?_toArray, List.getElem?_cons_zero, List.getElem?_cons_succ] at kt1 kt4
   have ft1 := Blk.frozen kT 1
   have ft4 := Blk.frozen kT 4
   obtain ⟨HbT, Hb2, HR, HE3, Hb3, Hdd, HkT, Hrdd⟩ := hd8 hbT hb2 hR hE3 hb3 hdd kT hrdd
   obtain ⟨Hwr, Hg2⟩ := hd2 hwr g2
   clear g2 hwr hrdd kT hdd hb3 hE3 hR hb2 hbT
   go_wp2_with fail
   refine Hwr.out.mono ?_
   rintro e2 w2' ⟨rfl, rfl⟩
   go_upto_region 11 with fail
   obtain ⟨w3, hw3⟩ : ∃ w3, w3 = (w2.setCell ⟨T, 1, none⟩ (.int .i64 (rd : Nat))).setCell ⟨T, 4, none⟩ (.int .i32 3) := ⟨_, rfl⟩
   rw [← hw3]
   rw [← hw3] at HE3 Hb3
   clear kt1 kt4 ft1 ft4 n0 n2
   have Hw3 := Lib.hid hw3
   clear hw3
   have kT := HE3.out.blk
   have lT := kT.lt
   obtain ⟨f0, _⟩ := HE3.out.fn
   have hfpl := HE3.out.fpb.2.1
   have kt0 := Blk.cell kT 0
   have kt1 := Blk.cell kT 1
   have kt2 := Blk.cell kT 2
   have kt3 := Blk.cell kT 3
   have kt4 := Blk.cell kT 4
   simp only [List.getElem?_toArray, List.getElem?_cons_zero, List.getElem?_cons_succ] at kt0 kt1 kt2 kt3 kt4
   have hput := put_em ((HE3.out.drew).alloc (.cells #[.int .u8 13, .int .i64 (rd : Nat), .int .i64 0, .int .i64 0, .int .i32 3] 71)) (ms := [⟨13, rd, 0, 0, 3⟩]) (c := 1) (Reads.newS _ rfl _ _ _ _ _ rfl rfl) rfl (by omega)
   have hb6 := (Hb3.out.drew).alloc HE3.out.drew.size (.cells #[.int .u8 13, .int .i64 (rd : Nat), .int .i64 0, .int .i64 0, .int .i32 3] 71)
   obtain ⟨Hput, Hb6, HkT⟩ := hd3 hput hb6 kT
   clear kT hb6 hput
   refine wp_region_late (S := fun W => W.cell? ⟨X.fp, 0, none⟩ = some (.pointer (some ⟨X.ep, 0, none⟩)) ∧ W.cell? ⟨T, 0, none⟩ = some (.int .u8 13) ∧ W.cell? ⟨T, 1, none⟩ = some (.int .i64 (rd : Nat)) ∧ W.cell? ⟨T, 2, none⟩ = some (.int .i64 0) ∧ W.cell? ⟨T, 3, none⟩ = some (.int .i64 0) ∧ W.cell? ⟨T, 4, none⟩ = some (.int .i32 3)) #[false, false, false, false, false, false, true] (by kernel_rfl) ⟨f0, kt0, kt1, kt2, kt3, kt4⟩ (fun hHeld => ?_)
   refine wpAnyL_tk 0 ?_
   refine wpAnyL_tk 1 ?_
   refine wpAnyL_tk 2 ?_
   refine wpAnyL_tk 3 ?_
   refine wpAnyL_tk 4 ?_
   refine wpAnyL_ready (rs := [5]) (by kernel_rfl) (by simp) ?_
   refine AllReadyL.cons rfl (fun K hK => ?_) AllReadyL.nil
   go_simp
   refine hK.out _ _ ⟨(World.cell?_alloc_lt _ _ ⟨X.fp, 0, none⟩ hfpl).trans f0, (World.cell?_alloc_lt _ _ ⟨T, 0, none⟩ lT).trans kt0, (World.cell?_alloc_lt _ _ ⟨T, 1, none⟩ lT).trans kt1, (World.cell?_alloc_lt _ _ ⟨T, 2, none⟩ lT).trans kt2, (World.cell?_alloc_lt _ _ ⟨T, 3, none⟩ lT).trans kt3, (World.cell?_alloc_lt _ _ ⟨T, 4, none⟩ lT).trans kt4⟩ (fun hHeld2 => ?_)
   clear hK K hHeld
   try simp only [Act.put, List.getElem_toArray, List.getElem_cons_zero, List.getElem_cons_succ, List.setIfInBounds_toArray, List.set_cons_zero, List.set_cons_succ]
   refine wpAnyL_ready (rs := [6]) (by kernel_rfl) (by simp) ?_
   refine AllReadyL.last rfl (by kernel_rfl) (fun K hK => ?_) AllReadyL.nil
   go_simp
   refine Hput.out.mono ?_
   rintro e7 w7 ⟨rfl, hE7, hb7⟩
   refine hK.out _ _ ?_
   clear hK K
   try simp only [Act.put, List.getElem_toArray, List.getElem_cons_zero, List.getElem_cons_succ, List.setIfInBounds_toArray, List.set_cons_zero, List.set_cons_succ]
   refine wpAnyL_done (by kernel_rfl) ?_ _
   have q2 := Hg2.out _ hE7.drop'.blk
   have kT7 := hE7.blk
   have ku1 := Blk.cell kT7 1
   simp only [List.getElem?_toArray, List.getElem?_cons_zero, List.getElem?_cons_succ] at ku1
   have hdn2 := done_em hE7 d rd hdn (by rw [sz_put]; simp only [List.length_singleton]; omega) hns
   have hb8 := Hb6.out.trans hb7
   clear kt0 kt1 kt2 kt3 kt4 f0
   obtain ⟨HE7, Hb7, Hdn2, Hb8, HkT7⟩ := hd5 hE7 hb7 hdn2 hb8 kT7
   clear kT7 hb8 hdn2 hb7 hE7
   go_wp2_with fail
   refine Hdn2.out.mono ?_
   rintro e8 w8 ⟨rfl, hE8, hb9⟩
   have hfin := Hb8.out.trans hb9
   have hE9 := hE8.drop.drop
   rw [HR.out] at hE9
   obtain ⟨HE8, Hb9, Hfin, HE9⟩ := hd4 hE8 hb9 hfin hE9
   clear hE9 hfin hb9 hE8
   go_wp2_with fail
   go_end0
   exact ⟨rfl, HE9.out, Hfin.out⟩
  ·rw [if_neg h16] at hR
   have hz16 : ((o : Int) == 16) = false := by simp; omega
   by_cases h15 : o = 15
   ·subst h15
    rw [if_pos rfl] at hR
    have hdd := Hd.out (.inr Hop.out)
    have hee := He.out Hop.out
    have g2 : ∀ W : World, Blk W N 55 NC → W.cell? ⟨N, 2, none⟩ = some (.int .i64 (d : Nat)) := fun W hB => node_cell hB HNC.out 2 (by show some (Value.int .i64 x.d) = _; rw [hdd])
    have g3 : ∀ W : World, Blk W N 55 NC → W.cell? ⟨N, 3, none⟩ = some (.int .i64 (e : Nat)) := fun W hB => node_cell hB HNC.out 3 (by show some (Value.int .i64 x.e) = _; rw [hee])
    have n2 := g2 _ hbT.drop'.blk
    have n3 := g3 _ hbT.drop'.blk
    obtain ⟨rd, hrdd⟩ : ∃ rd, regOf d 13 = rd := ⟨_, rfl⟩
    obtain ⟨re, hree⟩ : ∃ re, regOf e 13 = re := ⟨_, rfl⟩
    obtain ⟨rb, hrbb⟩ : ∃ rb, regOf e 15 = rb := ⟨_, rfl⟩
    rw [hrdd, hrbb] at hR
    have hwr := write_em X.fp d w2.drew
    have hwr2 := write_em X.fp e w2.drew
    rw [hrdd] at hwr
    rw [hree] at hwr2
    obtain ⟨hA1, hbT0⟩ := hbT.drew.setFirst 1 (.int .i64 (rd : Nat))
    have hA2 := (hA1.setFirst 3 (.int .i64 (re : Nat))).1
    have hE3 := (hA2.setFirst 4 (.int .i32 6)).1
    simp only [List.setIfInBounds_toArray, List.set_cons_succ, List.set_cons_zero] at hE3
    have hb3 := ((hb2.drew.setCell (p := ⟨T, 1, none⟩) hbT0 (.int .i64 (rd : Nat))).setCell (p := ⟨T, 3, none⟩) hbT0 (.int .i64 (re : Nat))).setCell (p := ⟨T, 4, none⟩) hbT0 (.int .i32 6)
    have kT := hbT.blk
    have kt1 := Blk.cell kT 1
    have kt3 := Blk.cell kT 3
    have kt4 := Blk.cell kT 4
    simp only [List.getElem?_toArray, List.getElem?_cons_zero, List.getElem?_cons_succ] at kt1 kt3 kt4
    have ft1 := Blk.frozen kT 1
    have ft3 := Blk.frozen kT 3
    have ft4 := Blk.frozen kT 4
    have S1 : _ ∧ _ := ⟨g2 _ hA1.drop'.blk, g3 _ hA1.drop'.blk⟩
    have S2 : _ ∧ _ := ⟨g2 _ hA2.drop'.blk, g3 _ hA2.drop'.blk⟩
    obtain ⟨HbT, Hb2, HR, HE3, Hb3, Hdd, Hee, HkT⟩ := hd8 hbT hb2 hR hE3 hb3 hdd hee kT
    obtain ⟨Hrdd, Hree, Hrbb, Hwr, Hwr2, Hg2, Hg3, HA1⟩ := hd8 hrdd hree hrbb hwr hwr2 g2 g3 hA1
    obtain ⟨HA2, HS1, HS2⟩ := hd3 hA2 S1 S2
    clear S2 S1 hA2 hA1 g3 g2 hwr2 hwr hrbb hree hrdd kT hee hdd hb3 hE3 hR hb2 hbT
    go_upto_region 14 with fail
    refine wp_region_late (S := fun W => W.cell? ⟨N, 2, none⟩ = some (.int .i64 (d : Nat)) ∧ W.cell? ⟨N, 3, none⟩ = some (.int .i64 (e : Nat))) #[false, false, false, false, false, false, false, false, false, false, false, false, false, true] (by kernel_rfl) ⟨n2, n3⟩ (fun hHeld => ?_)
    refine wpAnyL_tk 0 ?_
    refine wpAnyL_tk 1 ?_
    refine wpAnyL_tk 2 ?_
    refine wpAnyL_tk 4 ?_
    refine wpAnyL_tk 5 ?_
    refine wpAnyL_tk 6 ?_
    refine wpAnyL_ready (rs := [3]) (by kernel_rfl) (by simp) ?_
    refine AllReadyL.cons rfl (fun K hK => ?_) AllReadyL.nil
    go_simp
    refine Hwr.out.mono ?_
    rintro e2 w2' ⟨rfl, rfl⟩
    refine hK.out _ _ ⟨n2, n3⟩ (fun hHeld2 => ?_)
    clear hK K hHeld
    try simp only [Act.put, List.getElem_toArray, List.getElem_cons_zero, List.getElem_cons_succ, List.setIfInBounds_toArray, List.set_cons_zero, List.set_cons_succ]
    refine wpAnyL_tk 8 ?_
    refine wpAnyL_ready (rs := [7]) (by kernel_rfl) (by simp) ?_
    refine AllReadyL.cons rfl (fun K hK => ?_) AllReadyL.nil
    go_simp
    refine Hwr2.out.mono ?_
    rintro e2 w2' ⟨rfl, rfl⟩
    refine hK.out _ _ ⟨n2, n3⟩ (fun hHeld3 => ?_)
    clear hK K hHeld2
    try simp only [Act.put, List.getElem_toArray, List.getElem_cons_zero, List.getElem_cons_succ, List.setIfInBounds_toArray, List.set_cons_zero, List.set_cons_succ]
    refine wpAnyL_ready (rs := [9]) (by kernel_rfl) (by simp) ?_
    refine AllReadyL.cons rfl (fun K hK => ?_) AllReadyL.nil
    go_simp
    refine hK.out _ _ HS1.out (fun hHeld4 => ?_)
    clear hK K hHeld3
    try simp only [Act.put, List.getElem_toArray, List.getElem_cons_zero, List.getElem_cons_succ, List.setIfInBounds_toArray, List.set_cons_zero, List.set_cons_succ]
    refine wpAnyL_tk 10 ?_
    refine wpAnyL_ready (rs := [11]) (by kernel_rfl) (by simp) ?_
    refine AllReadyL.cons rfl (fun K hK => ?_) AllReadyL.nil
    go_simp
    refine hK.out _ _ HS2.out (fun hHeld5 => ?_)
    clear hK K hHeld4
    try simp only [Act.put, List.getElem_toArray, List.getElem_cons_zero, List.getElem_cons_succ, List.setIfInBounds_toArray, List.set_cons_zero, List.set_cons_succ]
    refine wpAnyL_tk 12 ?_
    refine wpAnyL_ready (rs := [13]) (by kernel_rfl) (by simp) ?_
    refine AllReadyL.last rfl (by kernel_rfl) (fun K hK => ?_) AllReadyL.nil
    go_simp
    refine hK.out _ _ ?_
    clear hK K
    try simp only [Act.put, List.getElem_toArray, List.getElem_cons_zero, List.getElem_cons_succ, List.setIfInBounds_toArray, List.set_cons_zero, List.set_cons_succ]
    refine wpAnyL_done (by kernel_rfl) ?_ _
    obtain ⟨w3, hw3⟩ : ∃ w3, w3 = (((w2.setCell ⟨T, 1, none⟩ (.int .i64 (rd : Nat))).setCell ⟨T, 3, none⟩ (.int .i64 (re : Nat))).setCell ⟨T, 4, none⟩ (.int .i32 6)).drew := ⟨_, rfl⟩
    rw [← hw3]
    have hF3 : EmAt w3 base X E (.blk T 71 #[.int .u8 13, .int .i64 (rd : Nat), .int .i64 0, .int .i64 (re : Nat), .int .i32 6] :: .blk N 55 NC :: rest) := by rw [hw3]; exact HE3.out
    have hB3 : Below base w w3 := by rw [hw3]; exact Hb3.out
    have q3 := Hg3.out _ hF3.drop'.blk
    have kF := hF3.blk
    have kf3 := Blk.cell kF 3
    simp only [List.getElem?_toArray, List.getElem?_cons_zero, List.getElem?_cons_succ] at kf3
    have ff3 := Blk.frozen kF 3
    clear n0 n2 n3 kt1 kt3 kt4 ft1 ft3 ft4 hHeld5 HE3 Hb3
    by_cases h16e : e < 16
    case' pos =>
     have hei : ¬ (16 : Int) ≤ e := by omega
     have h1 : re = e := by rw [← Hree.out]; unfold regOf; rw [if_pos h16e]
     have h2 : rb = e := by rw [← Hrbb.out]; unfold regOf; rw [if_pos h16e]
     have hE3 : EmAt w3 base X E (.blk T 71 #[.int .u8 13, .int .i64 (rd : Nat), .int .i64 0, .int .i64 (rb : Nat), .int .i32 6] :: .blk N 55 NC :: rest) := by rw [h2, ← h1]; exact hF3
     have hb3 := hB3
     obtain ⟨Hw3, HF3, HB3, HkF, HE3, Hb3, H1, H2⟩ := hd8 hw3 hF3 hB3 kF hE3 hb3 h1 h2
     clear h2 h1 hb3 hE3 kF hB3 hF3 hw3
     go_upto_region 17 with fail
     obtain ⟨w4, hw4⟩ : ∃ w4, w4 = w3 := ⟨_, rfl⟩
     rw [← hw4]
     rw [← hw4] at HE3 Hb3
     have Hw4 := Lib.hid hw4
     clear hw4
    case' neg =>
     have hei : (16 : Int) ≤ e := by omega
     have h2 : rb = 15 := by rw [← Hrbb.out]; unfold regOf; rw [if_neg h16e]
     have hE3 := (hF3.setFirst 3 (.int .i64 15)).1
     simp only [List.setIfInBounds_toArray, List.set_cons_succ, List.set_cons_zero] at hE3
     replace hE3 : EmAt (w3.setCell ⟨T, 3, none⟩ (.int .i64 15)) base X E (.blk T 71 #[.int .u8 13, .int .i64 (rd : Nat), .int .i64 0, .int .i64 (rb : Nat), .int .i32 6] :: .blk N 55 NC :: rest) := by rw [h2]; exact hE3
     have hb3 := hB3.setCell (p := ⟨T, 3, none⟩) hbT0 (.int .i64 15)
     obtain ⟨Hw3, HF3, HB3, HkF, HE3, Hb3, H2⟩ := hd7 hw3 hF3 hB3 kF hE3 hb3 h2
     clear h2 hb3 hE3 kF hB3 hF3 hw3
     go_upto_region 17 with fail
     obtain ⟨w4, hw4⟩ : ∃ w4, w4 = w3.setCell ⟨T, 3, none⟩ (.int .i64 15) := ⟨_, rfl⟩
     rw [← hw4]
     rw [← hw4] at HE3 Hb3
     have Hw4 := Lib.hid hw4
     clear hw4
    all_goals
     clear kf3 ff3 q3
     have kT := HE3.out.blk
     have lT := kT.lt
     obtain ⟨f0, _⟩ := HE3.out.fn
     have hfpl := HE3.out.fpb.2.1
     have kt0 := Blk.cell kT 0
     have kt1 := Blk.cell kT 1
     have kt2 := Blk.cell kT 2
     have kt3 := Blk.cell kT 3
     have kt4 := Blk.cell kT 4
     simp only [List.getElem?_toArray, List.getElem?_cons_zero, List.getElem?_cons_succ] at kt0 kt1 kt2 kt3 kt4
     have hput := put_em ((HE3.out.drew).alloc (.cells #[.int .u8 13, .int .i64 (rd : Nat), .int .i64 0, .int .i64 (rb : Nat), .int .i32 6] 71)) (ms := [⟨13, rd, 0, rb, 6⟩]) (c := 1) (Reads.newS _ rfl _ _ _ _ _ rfl rfl) rfl (by omega)
     have hb6 := (Hb3.out.drew).alloc HE3.out.drew.size (.cells #[.int .u8 13, .int .i64 (rd : Nat), .int .i64 0, .int .i64 (rb : Nat), .int .i32 6] 71)
     obtain ⟨Hput, Hb6, HkT⟩ := hd3 hput hb6 kT
     clear kT hb6 hput
     refine wp_region_late (S := fun W => W.cell? ⟨X.fp, 0, none⟩ = some (.pointer (some ⟨X.ep, 0, none⟩)) ∧ W.cell? ⟨T, 0, none⟩ = some (.int .u8 13) ∧ W.cell? ⟨T, 1, none⟩ = some (.int .i64 (rd : Nat)) ∧ W.cell? ⟨T, 2, none⟩ = some (.int .i64 0) ∧ W.cell? ⟨T, 3, none⟩ = some (.int .i64 (rb : Nat)) ∧ W.cell? ⟨T, 4, none⟩ = some (.int .i32 6)) #[false, false, false, false, false, false, true] (by kernel_rfl) ⟨f0, kt0, kt1, kt2, kt3, kt4⟩ (fun hHeld => ?_)
     refine wpAnyL_tk 0 ?_
     refine wpAnyL_tk 1 ?_
     refine wpAnyL_tk 2 ?_
     refine wpAnyL_tk 3 ?_
     refine wpAnyL_tk 4 ?_
     refine wpAnyL_ready (rs := [5]) (by kernel_rfl) (by simp) ?_
     refine AllReadyL.cons rfl (fun K hK => ?_) AllReadyL.nil
     go_simp
     refine hK.out _ _ ⟨(World.cell?_alloc_lt _ _ ⟨X.fp, 0, none⟩ hfpl).trans f0, (World.cell?_alloc_lt _ _ ⟨T, 0, none⟩ lT).trans kt0, (World.cell?_alloc_lt _ _ ⟨T, 1, none⟩ lT).trans kt1, (World.cell?_alloc_lt _ _ ⟨T, 2, none⟩ lT).trans kt2, (World.cell?_alloc_lt _ _ ⟨T, 3, none⟩ lT).trans kt3, (World.cell?_alloc_lt _ _ ⟨T, 4, none⟩ lT).trans kt4⟩ (fun hHeld2 => ?_)
     clear hK K hHeld
     try simp only [Act.put, List.getElem_toArray, List.getElem_cons_zero, List.getElem_cons_succ, List.setIfInBounds_toArray, List.set_cons_zero, List.set_cons_succ]
     refine wpAnyL_ready (rs := [6]) (by kernel_rfl) (by simp) ?_
     refine AllReadyL.last rfl (by kernel_rfl) (fun K hK => ?_) AllReadyL.nil
     go_simp
     refine Hput.out.mono ?_
     rintro e7 w7 ⟨rfl, hE7, hb7⟩
     refine hK.out _ _ ?_
     clear hK K
     try simp only [Act.put, List.getElem_toArray, List.getElem_cons_zero, List.getElem_cons_succ, List.setIfInBounds_toArray, List.set_cons_zero, List.set_cons_succ]
     refine wpAnyL_done (by kernel_rfl) ?_ _
     have q2 := Hg2.out _ hE7.drop'.blk
     have kT7 := hE7.blk
     have ku1 := Blk.cell kT7 1
     simp only [List.getElem?_toArray, List.getElem?_cons_zero, List.getElem?_cons_succ] at ku1
     have hdn2 := done_em hE7 d rd hdn (by rw [sz_put]; simp only [List.length_singleton]; omega) hns
     have hb8 := Hb6.out.trans hb7
     clear kt0 kt1 kt2 kt3 kt4 f0
     obtain ⟨HE7, Hb7, Hdn2, Hb8, HkT7⟩ := hd5 hE7 hb7 hdn2 hb8 kT7
     clear kT7 hb8 hdn2 hb7 hE7
     go_wp2_with fail
     refine Hdn2.out.mono ?_
     rintro e8 w8 ⟨rfl, hE8, hb9⟩
     have q3 := Hg3.out _ hE8.drop'.blk
     have kT8 := hE8.blk
     have kx3 := Blk.cell kT8 3
     simp only [List.getElem?_toArray, List.getElem?_cons_zero, List.getElem?_cons_succ] at kx3
     have hdn3 := done_em hE8 e rb hen (by have := sz_done (E.put [⟨13, rd, 0, rb, 6⟩]) d rd; rw [sz_put] at this; simp only [List.length_singleton] at this; omega) hns
     have hb10 := Hb8.out.trans hb9
     clear ku1 q2
     obtain ⟨HE8, Hb9, Hdn3, Hb10, HkT8⟩ := hd5 hE8 hb9 hdn3 hb10 kT8
     clear kT8 hb10 hdn3 hb9 hE8
     go_wp2_with fail
     refine Hdn3.out.mono ?_
     rintro e9 w9 ⟨rfl, hE9, hb11⟩
     have hfin := Hb10.out.trans hb11
     have hE10 := hE9.drop.drop
     rw [HR.out] at hE10
     obtain ⟨HE9, Hb11, Hfin, HE10⟩ := hd4 hE9 hb11 hfin hE10
     clear hE10 hfin hb11 hE9
     go_wp2_with fail
     go_end0
     exact ⟨rfl, HE10.out, Hfin.out⟩
   ·rw [if_neg h15] at hR
    have hz15 : ((o : Int) == 15) = false := by simp; omega
    have haa := Ha.out (by rw [Hop.out]; omega)
    have g4 : ∀ W : World, Blk W N 55 NC → W.cell? ⟨N, 4, none⟩ = some (.int .i64 (a : Nat)) := fun W hB => node_cell hB HNC.out 4 (by show some (Value.int .i64 x.a) = _; rw [haa])
    obtain ⟨ra, hraa⟩ : ∃ ra, regOf a 13 = ra := ⟨_, rfl⟩
    rw [hraa] at hR
    have hmap0 : (w2.alloc (.map #[] 0)).ownsMap Tryd.prog 51 (plainElem (H := Unit) Tryd.prog 21) w2.heap.size 0 (.map []) := World.ownsMap_made _ _ _ _
    have hmm := @run_makeMap Tryd.prog
    have hb00 := (Below.refl w2.heap.size w2).alloc (Nat.le_refl _) (.map #[] 0)
    have h3 : o = 14 ∨ o = 17 ∨ o = 18 := by omega
    have hkw : (Lit.int .u8 (o : Int)).wf = true := by rcases h3 with rfl | rfl | rfl <;> rfl
    have hc : ∀ c : Int, ((((DataW.map []).put (.int .u8 17) (.lit (.int .i32 2))).put (.int .u8 14) (.lit (.int .i32 5))).put (.int .u8 18) (.lit (.int .i32 4)) : DataW Unit).atKey (.int .u8 (o : Int)) (.lit (.int .i32 0)) = .lit (.int .i32 c) → c = sysImm o := by
     intro c hcc
     rcases h3 with rfl | rfl | rfl
     ·have e1 : ((((DataW.map []).put (.int .u8 17) (.lit (.int .i32 2))).put (.int .u8 14) (.lit (.int .i32 5))).put (.int .u8 18) (.lit (.int .i32 4)) : DataW Unit).atKey (.int .u8 ((14 : Nat) : Int)) (.lit (.int .i32 0)) = .lit (.int .i32 5) := by rfl
      rw [e1] at hcc; injection hcc with hcc; injection hcc with _ hcc; exact hcc.symm
     ·have e1 : ((((DataW.map []).put (.int .u8 17) (.lit (.int .i32 2))).put (.int .u8 14) (.lit (.int .i32 5))).put (.int .u8 18) (.lit (.int .i32 4)) : DataW Unit).atKey (.int .u8 ((17 : Nat) : Int)) (.lit (.int .i32 0)) = .lit (.int .i32 2) := by rfl
      rw [e1] at hcc; injection hcc with hcc; injection hcc with _ hcc; exact hcc.symm
     ·have e1 : ((((DataW.map []).put (.int .u8 17) (.lit (.int .i32 2))).put (.int .u8 14) (.lit (.int .i32 5))).put (.int .u8 18) (.lit (.int .i32 4)) : DataW Unit).atKey (.int .u8 ((18 : Nat) : Int)) (.lit (.int .i32 0)) = .lit (.int .i32 4) := by rfl
      rw [e1] at hcc; injection hcc with hcc; injection hcc with _ hcc; exact hcc.symm
    obtain ⟨v1, hrun1, hm1, hg1⟩ := hmap0.update (int_keyed Tryd.underlying51) Tryd.underlying148 (by unfold maxLen; omega) (keyOf_int_mk Tryd.underlying51 (q := .u8) (a := 17) (by rfl)) (plainElem_int Tryd.underlying21 (q := .i32) (a := 2) (by rfl))
    obtain ⟨v2, hrun2, hm2, hg2⟩ := hm1.update (int_keyed Tryd.underlying51) Tryd.underlying148 (by unfold maxLen; omega) (keyOf_int_mk Tryd.underlying51 (q := .u8) (a := 14) (by rfl)) (plainElem_int Tryd.underlying21 (q := .i32) (a := 5) (by rfl))
    obtain ⟨v3, hrun3, hm3, hg3⟩ := hm2.update (int_keyed Tryd.underlying51) Tryd.underlying148 (by unfold maxLen; omega) (keyOf_int_mk Tryd.underlying51 (q := .u8) (a := 18) (by rfl)) (plainElem_int Tryd.underlying21 (q := .i32) (a := 4) (by rfl))
    obtain ⟨c, hlk, hcc, _⟩ := hm3.lookup_int (int_keyed Tryd.underlying51) Tryd.underlying148 Tryd.underlying21 (q := .i32) (by rfl) (keyOf_int_mk Tryd.underlying51 hkw)
    obtain rfl := hc c hcc
    have hgA := (hg1.trans hg2).trans hg3
    have hB5 := hb00.grown hgA (by simp) (fun b e => by injection e with e; omega)
    have hE4 := hbT.below hB5
    have hb4 := hb2.trans (hB5.mono hbT.size)
    obtain ⟨im, him⟩ : ∃ im, sysImm o = im := ⟨_, rfl⟩
    rw [him] at hR hlk
    have m0 := Hg0.out _ hE4.drop'.blk
    have kT := hE4.blk
    have kt4 := Blk.cell kT 4
    simp only [List.getElem?_toArray, List.getElem?_cons_zero, List.getElem?_cons_succ] at kt4
    have ft4 := Blk.frozen kT 4
    obtain ⟨hE5, hbT0⟩ := hE4.setFirst 4 (.int .i32 im)
    simp only [List.setIfInBounds_toArray, List.set_cons_succ, List.set_cons_zero] at hE5
    have hb5 := hb4.setCell (p := ⟨T, 4, none⟩) hbT0 (.int .i32 im)
    obtain ⟨HbT, Hb2, HR, Haa, Hraa, Hg4, Hb00, Hc⟩ := hd8 hbT hb2 hR haa hraa g4 hb00 hc
    obtain ⟨HgA, HB5, HE4, Hb4, Him, HkT, HE5, Hb5⟩ := hd8 hgA hB5 hE4 hb4 him kT hE5 hb5
    obtain ⟨Hg1, Hg2, Hg3, Hm1, Hm2, Hm3, Hmap0, Hcc⟩ := hd8 hg1 hg2 hg3 hm1 hm2 hm3 hmap0 hcc
    have H3 := Lib.hid h3
    clear h3 hcc hmap0 hm3 hm2 hm1 hg3 hg2 hg1 hb5 hE5 kT him hb4 hE4 hB5 hgA hc hb00 g4 hraa haa hR hb2 hbT
    go_upto_region 4 with fail
    obtain ⟨w5, hw5⟩ : ∃ w5, w5 = v3.setCell ⟨T, 4, none⟩ (.int .i32 im) := ⟨_, rfl⟩
    rw [← hw5]
    rw [← hw5] at HE5 Hb5
    have n4 := Hg4.out _ HE5.out.drop'.blk
    have hrd := read_em HE5.out a 13 han (by omega) hns
    rw [Hraa.out] at hrd
    clear m0 n0 kt4 ft4 hrun1 hrun2 hrun3 hlk hmm
    obtain ⟨Hw5, Hrd⟩ := hd2 hw5 hrd
    clear hrd hw5
    go_wp2_with fail
    refine Hrd.out.mono ?_
    rintro e5 w6 ⟨rfl, hE6, hb56⟩
    have kT6 := hE6.blk
    have kt2 := Blk.cell kT6 2
    simp only [List.getElem?_toArray, List.getElem?_cons_zero, List.getElem?_cons_succ] at kt2
    have ft2 := Blk.frozen kT6 2
    have hE3 := (hE6.setFirst 2 (.int .i64 (ra : Nat))).1
    simp only [List.setIfInBounds_toArray, List.set_cons_succ, List.set_cons_zero] at hE3
    have hb3 := (Hb5.out.trans hb56).setCell (p := ⟨T, 2, none⟩) hbT0 (.int .i64 (ra : Nat))
    obtain ⟨HE6, Hb56, HkT6, HE3, Hb3⟩ := hd5 hE6 hb56 kT6 hE3 hb3
    clear hb3 hE3 kT6 hb56 hE6
    go_upto_region 5 with fail
    obtain ⟨w3, hw3⟩ : ∃ w3, w3 = w6.setCell ⟨T, 2, none⟩ (.int .i64 (ra : Nat)) := ⟨_, rfl⟩
    rw [← hw3]
    rw [← hw3] at HE3 Hb3
    clear kt2 ft2 n4
    have Hw3 := Lib.hid hw3
    clear hw3
    have kT := HE3.out.blk
    have lT := kT.lt
    obtain ⟨f0, _⟩ := HE3.out.fn
    have hfpl := HE3.out.fpb.2.1
    have kt0 := Blk.cell kT 0
    have kt1 := Blk.cell kT 1
    have kt2 := Blk.cell kT 2
    have kt3 := Blk.cell kT 3
    have kt4 := Blk.cell kT 4
    simp only [List.getElem?_toArray, List.getElem?_cons_zero, List.getElem?_cons_succ] at kt0 kt1 kt2 kt3 kt4
    have hput := put_em ((HE3.out.drew).alloc (.cells #[.int .u8 13, .int .i64 0, .int .i64 (ra : Nat), .int .i64 0, .int .i32 im] 71)) (ms := [⟨13, 0, ra, 0, im⟩]) (c := 1) (Reads.newS _ rfl _ _ _ _ _ rfl rfl) rfl (by have := sz_read E a 13; omega)
    have hb6 := (Hb3.out.drew).alloc HE3.out.drew.size (.cells #[.int .u8 13, .int .i64 0, .int .i64 (ra : Nat), .int .i64 0, .int .i32 im] 71)
    obtain ⟨Hput, Hb6, HkT⟩ := hd3 hput hb6 kT
    clear kT hb6 hput
    refine wp_region_late (S := fun W => W.cell? ⟨X.fp, 0, none⟩ = some (.pointer (some ⟨X.ep, 0, none⟩)) ∧ W.cell? ⟨T, 0, none⟩ = some (.int .u8 13) ∧ W.cell? ⟨T, 1, none⟩ = some (.int .i64 0) ∧ W.cell? ⟨T, 2, none⟩ = some (.int .i64 (ra : Nat)) ∧ W.cell? ⟨T, 3, none⟩ = some (.int .i64 0) ∧ W.cell? ⟨T, 4, none⟩ = some (.int .i32 im)) #[false, false, false, false, false, false, true] (by kernel_rfl) ⟨f0, kt0, kt1, kt2, kt3, kt4⟩ (fun hHeld => ?_)
    refine wpAnyL_tk 0 ?_
    refine wpAnyL_tk 1 ?_
    refine wpAnyL_tk 2 ?_
    refine wpAnyL_tk 3 ?_
    refine wpAnyL_tk 4 ?_
    refine wpAnyL_ready (rs := [5]) (by kernel_rfl) (by simp) ?_
    refine AllReadyL.cons rfl (fun K hK => ?_) AllReadyL.nil
    go_simp
    refine hK.out _ _ ⟨(World.cell?_alloc_lt _ _ ⟨X.fp, 0, none⟩ hfpl).trans f0, (World.cell?_alloc_lt _ _ ⟨T, 0, none⟩ lT).trans kt0, (World.cell?_alloc_lt _ _ ⟨T, 1, none⟩ lT).trans kt1, (World.cell?_alloc_lt _ _ ⟨T, 2, none⟩ lT).trans kt2, (World.cell?_alloc_lt _ _ ⟨T, 3, none⟩ lT).trans kt3, (World.cell?_alloc_lt _ _ ⟨T, 4, none⟩ lT).trans kt4⟩ (fun hHeld2 => ?_)
    clear hK K hHeld
    try simp only [Act.put, List.getElem_toArray, List.getElem_cons_zero, List.getElem_cons_succ, List.setIfInBounds_toArray, List.set_cons_zero, List.set_cons_succ]
    refine wpAnyL_ready (rs := [6]) (by kernel_rfl) (by simp) ?_
    refine AllReadyL.last rfl (by kernel_rfl) (fun K hK => ?_) AllReadyL.nil
    go_simp
    refine Hput.out.mono ?_
    rintro e7 w7 ⟨rfl, hE7, hb7⟩
    refine hK.out _ _ ?_
    clear hK K
    try simp only [Act.put, List.getElem_toArray, List.getElem_cons_zero, List.getElem_cons_succ, List.setIfInBounds_toArray, List.set_cons_zero, List.set_cons_succ]
    refine wpAnyL_done (by kernel_rfl) ?_ _
    have hfin := Hb6.out.trans hb7
    have hE9 := hE7.drop.drop
    rw [HR.out] at hE9
    obtain ⟨HE7, Hb7, Hfin, HE9⟩ := hd4 hE7 hb7 hfin hE9
    clear hE9 hfin hb7 hE7
    clear kt0 kt1 kt2 kt3 kt4 f0
    go_wp2_with fail
    go_end0
    exact ⟨rfl, HE9.out, Hfin.out⟩
end
end Go.Proofs.YtnfjjliiajaijaaDoor
namespace Go.Proofs.YtnfjjliiajaijaaDoor
open Go.RowKit
def EmS.site (E : EmS) (L : List Int) : EmS := { E with sites := E.sites ++ [(E.code.length, L)] }
/-- what lives of a list of places -/
def liveL (K : Nat → Int) (l : List Nat) : List Int := (l.filter fun p => decide (16 ≤ p) && decide (K p = 1)).map slotOf
theorem liveL_snoc (K : Nat → Int) (l : List Nat) (p : Nat) : liveL K (l ++ [p]) = liveL K l ++ (if 16 ≤ p ∧ K p = 1 then [slotOf p] else []) := by
 unfold liveL
 rw [List.filter_append, List.map_append]
 by_cases h : 16 ≤ p ∧ K p = 1
 ·rw [if_pos h]; simp [h.1, h.2]
 ·rw [if_neg h]
  have : (decide (16 ≤ p) && decide (K p = 1)) = false := by simpa using h
  simp [this]
theorem sz_site (E : EmS) (L : List Int) : (E.site L).sz = E.sz + 1 := by unfold EmS.sz EmS.site; simp only [List.length_append, List.length_singleton]; omega
theorem infoSite : (Tryd.prog.info? 112).map (fun i => (i.zero, i.size, i.bytes)) = some (some (.agg #[.int .i64 0, .slice none 0 0]), 2, 32) := by kernel_rfl
section
variable {w : World} {base : Nat} {X : EmX} {E : EmS} {rest : List It}
theorem siteCells_snoc {l : List (Nat × List Int)} {vs : List Value} (h : vs.length = l.length) (x : Nat × List Int) (v : Value) : siteCells (l ++ [x]) (vs ++ [v]) = siteCells l vs ++ [.int .i64 (x.1 : Nat), v] := by
 unfold siteCells
 rw [List.zip_append h.symm, List.flatMap_append]; rfl
theorem liveRows_snoc {l : List (Nat × List Int)} {vs : List Value} (h : vs.length = l.length) (x : Nat × List Int) (v : Value) : liveRows (l ++ [x]) (vs ++ [v]) = liveRows l vs ++ [.row v 3 1 x.2.length (x.2.map (Value.int .i64))] := by
 unfold liveRows
 rw [List.zip_append h.symm, List.map_append]; rfl
theorem EmAt.site_ {lv : Value} {L : List Int} (h : EmAt w base X E (.row lv 3 1 L.length (L.map (Value.int .i64)) :: rest)) : ∃ v xs, w.cell? ⟨X.ep, 4, none⟩ = some v ∧ w.ownsRow base 112 2 v E.sites.length xs ∧ (∀ u ∈ xs, u.oneCell' = true → True) ∧
  ∀ w', w.grownBy w' v.ownBlock → (∀ g, g = X.fp ∨ g = X.ep → ∀ j, w'.cell? ⟨g, j, none⟩ = w.cell? ⟨g, j, none⟩) ∧ w'.frozen? ⟨X.ep, 4, none⟩ = false ∧ (∀ g t cs, It.blk g t cs ∈ rest → Blk w' g t cs) ∧
   ∀ A c, w'.ownsRow base 112 2 (.slice A (E.sites.length + 1) c) (E.sites.length + 1) (xs ++ [.int .i64 (E.code.length : Nat), lv]) → ((Value.slice A (E.sites.length + 1) c).ownBlock = v.ownBlock ∨ ∀ b, (Value.slice A (E.sites.length + 1) c).ownBlock = some b → w.heap.size ≤ b) →
    EmAt (w'.setCell ⟨X.ep, 4, none⟩ (.slice A (E.sites.length + 1) c)) base X (E.site L) rest ∧ Below base w (w'.setCell ⟨X.ep, 4, none⟩ (.slice A (E.sites.length + 1) c)) := by
 obtain ⟨cv, sv, zv, nv, Mc, J, L', lvs, h1, hI⟩ := h
 have hb := hI.blk (i := 3) rfl
 have he := hI.blk (i := 0) rfl
 have ho := hI.own (i := 11) rfl
 have heb := (hI.at_ (i := 0) rfl).lt X.ep rfl
 refine ⟨_, _, he.cell 4, ho, fun _ _ _ => trivial, fun w' hg => ?_⟩
 have hn3 := hI.ne_row (i := 3) (j := 11) rfl rfl (by omega)
 have hn0 := hI.ne_row (i := 0) (j := 11) rfl rfl (by omega)
 have hb' := hb.grown hg hn3
 have he' := he.grown hg hn0
 refine ⟨fun g hgg j => ?_, he'.frozen 4, fun g t cs hm => ?_, fun A c ho' hat => ?_⟩
 ·rcases hgg with rfl | rfl
  ·rw [hb'.cell j, hb.cell j]
  ·rw [he'.cell j, he.cell j]
 ·obtain ⟨k, hk⟩ := List.mem_iff_getElem?.1 (List.mem_append_right (emItems X E cv sv zv nv Mc J L' lvs) (List.mem_append_right (liveRows E.sites lvs) (List.mem_cons_of_mem (.row lv 3 1 L.length (L.map (Value.int .i64))) hm)))
  have hk11 : k ≠ 11 := by
   rintro rfl
   have e11 : (emItems X E cv sv zv nv Mc J L' lvs ++ (liveRows E.sites lvs ++ .row lv 3 1 L.length (L.map (Value.int .i64)) :: rest))[11]? = some (.row sv 112 2 E.sites.length (siteCells E.sites lvs)) := rfl
   rw [e11] at hk
   cases hk
  exact (hI.blk hk).grown hg (hI.ne_row (i := k) (j := 11) hk rfl hk11)
 ·have hI2 := hI.push (i := 11) rfl ho' hg hat
  have hI3 := hI2.set_ (i := 0) rfl 4 (.slice A (E.sites.length + 1) c)
  refine ⟨⟨cv, .slice A (E.sites.length + 1) c, zv, nv, Mc, J, L', lvs ++ [lv], ?_, ?_⟩, ?_⟩
  ·unfold EmS.site; simp only [List.length_append, List.length_singleton]; omega
  ·have e : (E.site L).sites.length = E.sites.length + 1 := by unfold EmS.site; simp only [List.length_append, List.length_singleton]
   have e2 : siteCells (E.site L).sites (lvs ++ [lv]) = siteCells E.sites lvs ++ [.int .i64 (E.code.length : Nat), lv] := siteCells_snoc h1 _ _
   have e3 : liveRows (E.site L).sites (lvs ++ [lv]) = liveRows E.sites lvs ++ [.row lv 3 1 L.length (L.map (Value.int .i64))] := liveRows_snoc h1 _ _
   unfold emItems
   rw [e, e2, e3, List.append_assoc]
   exact hI3
  ·exact ((Below.refl base w).grown hg (by omega) fun b e => (ho.lt b e).1).setCell (p := ⟨X.ep, 4, none⟩) heb.1 _
end
end Go.Proofs.YtnfjjliiajaijaaDoor
