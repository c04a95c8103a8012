/- Walk of the emitter's nodes that call. Conditions: the emitter, the graph and the sets of what lives lie in memory, places are there. Sets side by side in memory, beside the emitter. No condition. What a node reads, writes, goes on to, as lists of the call's own. Conditions: the node lies in memory. Rows of pointers to sets, beside the emitter. No condition. -/
import Derived.Test.YtnfjjliiajaijaaDoorPkAA
import Derived.Test.YtnfjjliiajaijaaDoorPkAK
import Derived.Test.YtnfjjliiajaijaaDoorPkAL
import Derived.Test.YtnfjjliiajaijaaDoorPkAD
set_option linter.unusedVariables false
set_option linter.unusedSimpArgs false
set_option maxRecDepth 100000
set_option maxHeartbeats 10000000
namespace Go.Proofs.YtnfjjliiajaijaaDoor
open Go.RowKit
def EmS.call (E : EmS) (f : Nat) : EmS := { E with calls := upd E.calls E.code.length f, cn := E.cn + 1 }
theorem sz_call (E : EmS) (f : Nat) : (E.call f).sz = E.sz + 1 := by unfold EmS.sz EmS.call; simp only; omega
section
variable {w : World} {base : Nat} {X : EmX} {E : EmS} {rest : List It}
theorem EmAt.putCall (h : EmAt w base X E rest) (f : Nat) (hl : f < 4611686018427387904) (hsz : E.sz + 1 ≤ 1099511627776) : ∃ J w1, w.cell? ⟨X.ep, 2, none⟩ = some (.map (some J)) ∧ (Instr.mapUpdate 64 (.map (some J)) (.int .i64 (E.code.length : Nat)) (.int .i64 (f : Nat))).run Tryd.prog w = .ok () w1 ∧ EmAt w1 base X (E.call f) rest ∧ Below base w w1 := by
 obtain ⟨cv, sv, zv, nv, Mc, J, L, lvs, h1, hI⟩ := h
 have hb := hI.blk (i := 0) rfl
 have hm := hI.imap (i := 2) rfl
 have hlt := (hI.at_ (i := 2) rfl).lt Mc rfl
 unfold EmS.sz at hsz
 obtain ⟨w1, hrun, hm1, hg⟩ := hm.put E.code.length f (by omega) (by omega) (by unfold maxLen; omega)
 refine ⟨Mc, w1, hb.cell 2, hrun, ⟨cv, sv, zv, nv, Mc, J, L, lvs, h1, hI.put (i := 2) rfl hm1 hg⟩, (Below.refl base w).grown hg (by omega) fun b e => by injection e with e; omega⟩
theorem node_call {gb go i : Nat} {g : GraphD} {x : NodeD} (h : EmAt w base X E rest) (hga : X.ga = ⟨gb, (go : Nat), none⟩) (hG : GrF w base gb go g) (hx : g.nodes[i]? = some x) (hop : x.op = 11) (f : Nat) (hf : x.f = (f : Int)) (hfl : f ≤ 1048576) {n : Nat} {S : Nat → Bool} {KD : Nat → Int}
  (hP : ∀ W E', EmAt W base X E' rest → ∃ pA N pc g h', X.pv = .slice (some pA) N pc ∧ i < N ∧ W.cell? (pA.add i) = some (.pointer (some ⟨g, 0, none⟩)) ∧ SetF W g h' n S)
  (hS : ∀ k, n ≤ k → S k = false) (hn : n ≤ 16 + X.ns)
  (hKD : ∀ W, Below base w W → ∃ kv, W.cell? ⟨gb, ((go + 1 : Nat) : Nat), none⟩ = some kv ∧ ∀ k, k < n → ∃ kA kc, kv = .slice (some kA) n kc ∧ W.cell? (kA.add k) = some (.int .u8 (KD k)))
  (hT : ∀ W, Below base w W → TabX W)
  (hns : X.ns ≤ 1048560) (hi : i < 1048576) (hsz : E.sz + 9 ≤ 1099511627776) :
  Calls Tryd.prog 40 #[.pointer (some ⟨X.fp, 0, none⟩), .int .i64 (i : Nat)] w fun e w' => EmGot base X rest w (.tuple #[]) (((((E.mark i).call f).put [⟨9, 0, 0, 0, 0⟩]).site (liveL KD (listN n S)))) e w' := by
 obtain ⟨R, hR⟩ : ∃ R, ((((E.mark i).call f).put [⟨9, 0, 0, 0, 0⟩]).site (liveL KD (listN n S))) = R := ⟨_, rfl⟩
 rw [hR]
 obtain ⟨f0, f1, _⟩ := h.fn
 rw [hga] at f1
 obtain ⟨_, pv, kv, iv, nv, hgc, _, _, _, hN⟩ := hG
 have c6 := hgc 6 nv rfl
 obtain ⟨NA, nc, rfl, _, _⟩ := hN.slice
 obtain ⟨nad, cs, hna, _, _, _, ⟨av, hcs, hav⟩, z0, nj⟩ := RowsAt.at_ hN hx
 subst hna hcs
 obtain ⟨AA, aac, hava, _, _, _⟩ := hav.slice
 subst hava
 have n0 : w.cell? (nad.add (i * 12)) = some (.int .u8 x.op) := z0 _ rfl
 have n1 := nj 1 _ (by omega) rfl
 have n2 := nj 2 _ (by omega) rfl
 have n3 := nj 3 _ (by omega) rfl
 have n4 := nj 4 _ (by omega) rfl
 have n5 := nj 5 _ (by omega) rfl
 have n6 := nj 6 _ (by omega) rfl
 have n7 := nj 7 _ (by omega) rfl
 have n8 := nj 8 _ (by omega) rfl
 have n9 := nj 9 _ (by omega) rfl
 have n10 := nj 10 _ (by omega) rfl
 have n11 := nj 11 _ (by omega) rfl
 clear nj z0
 obtain ⟨nn, hnn⟩ : ∃ nn, g.nodes.length = nn := ⟨_, rfl⟩
 have hin : (i : Int) < nn := by
  have := (List.getElem?_eq_some_iff.1 hx).1
  omega
 rw [hnn] at c6
 have hbx := h.box 55 (ncells x (.slice AA x.args.length aac)).toArray
 have hb := (Below.refl base w).alloc h.size (.cells (ncells x (.slice AA x.args.length aac)).toArray 55)
 obtain ⟨N, hNN⟩ : ∃ N, N = w.heap.size := ⟨_, rfl⟩
 obtain ⟨w1, hw1⟩ : ∃ w1, w1 = w.alloc (.cells (ncells x (.slice AA x.args.length aac)).toArray 55) := ⟨_, rfl⟩
 rw [← hw1, ← hNN] at hbx
 rw [← hw1] at hb
 have hw1' : w.alloc (.cells #[.int .u8 x.op, .int .u8 x.byo, .int .i64 x.d, .int .i64 x.e, .int .i64 x.a, .int .i64 x.b, .int .i64 x.f, .int .i64 x.cell, .int .u64 x.imm, .slice AA x.args.length aac, .int .i64 x.next, .int .i64 x.els] 55) = w1 := hw1.symm
 have hmk := mark_em hbx i (by omega) (by omega)
 obtain ⟨H, Hga, Hgc, HN, Hx, Hav, Hnn, Hbx⟩ := hd8 h hga hgc hN hx hav hnn hbx
 obtain ⟨Hb, HNN, Hw1, HW1E, Hmk, HR, Hop, Hf⟩ := hd8 hb hNN hw1 hw1' hmk hR hop hf
 obtain ⟨HP, HS, HKD, HT⟩ := hd4 hP hS hKD hT
 clear hT hKD hS hP hf hop hR hmk hw1' hw1 hNN hb hbx hnn hav hx hN hgc hga h
 go_enter Tryd.func40, Tryd.ntmps40
 go_upto_region 1 with fail
 rw [HW1E.out, ← HNN.out]
 clear n0 n1 n2 n3 n4 n5 n6 n7 n8 n9 n10 n11 c6 f0 f1
 go_wp2_with fail
 refine Hmk.out.mono ?_
 rintro e w2 ⟨rfl, hE2, hb12⟩
 have hb2 := Hb.out.trans hb12
 have hB2 := hE2.blk
 have m0 := node_cell hB2 rfl 0 (u := .int .u8 11) (by show some (Value.int .u8 x.op) = _; rw [Hop.out])
 have m6 := node_cell hB2 rfl 6 (u := .int .i64 (f : Nat)) (by show some (Value.int .i64 x.f) = _; rw [Hf.out])
 obtain ⟨J, w4, e2, hrun, hE4, hb4⟩ := hE2.drew.putCall f (by omega) (by rw [sz_mark]; omega)
 obtain ⟨f0, _⟩ := hE2.fn
 obtain ⟨CA, cc, k0⟩ := hE2.code
 replace e2 : w2.cell? ⟨X.ep, 2, none⟩ = some (.map (some J)) := e2
 obtain ⟨g0, _⟩ := hE4.fn
 have hb4' := (hb2.drew).trans hb4
 have hput := put_em (hE4.alloc (.cells #[.int .u8 9, .int .i64 0, .int .i64 0, .int .i64 0, .int .i32 0] 71)) (ms := [⟨9, 0, 0, 0, 0⟩]) (c := 1) (Reads.newS _ rfl _ _ _ _ _ rfl rfl) rfl (by rw [sz_call, sz_mark]; omega)
 have hb5 := hb4'.alloc hE4.size (.cells #[.int .u8 9, .int .i64 0, .int .i64 0, .int .i64 0, .int .i32 0] 71)
 obtain ⟨HE2, Hb12, Hb2, HB2, HE4, Hb4, Hb4', Hput⟩ := hd8 hE2 hb12 hb2 hB2 hE4 hb4 hb4' hput
 have Hb5 := Lib.hid hb5
 clear hb5 hput hb4' hb4 hE4 hB2 hb2 hb12 hE2
 go_upto_region 30 with fail
 refine wp_region_late (S := fun W => W.cell? ⟨X.fp, 0, none⟩ = some (.pointer (some ⟨X.ep, 0, none⟩)) ∧ W.cell? ⟨X.ep, 2, none⟩ = some (.map (some J)) ∧ W.cell? ⟨X.ep, 0, none⟩ = some (.slice CA ((E.mark i).code.length) cc) ∧ W.cell? ⟨N, 6, none⟩ = some (.int .i64 (f : Nat))) #[false, false, false, false, false, false, false, false, false, false, false, false, false, false, false, false, false, true] (by kernel_rfl) ⟨f0, e2, k0, m6⟩ (fun hHeld => ?_)
 refine wpAnyL_tk 0 ?_
 refine wpAnyL_tk 1 ?_
 refine wpAnyL_tk 2 ?_
 refine wpAnyL_tk 3 ?_
 refine wpAnyL_tk 4 ?_
 refine wpAnyL_tk 5 ?_
 refine wpAnyL_tk 6 ?_
 refine wpAnyL_tk 7 ?_
 refine wpAnyL_tk 8 ?_
 refine wpAnyL_tk 9 ?_
 refine wpAnyL_tk 10 ?_
 refine wpAnyL_tk 11 ?_
 refine wpAnyL_tk 12 ?_
 refine wpAnyL_tk 13 ?_
 refine wpAnyL_tk 14 ?_
 refine wpAnyL_tk 15 ?_
 refine wpAnyL_tk 16 ?_
 refine wpAnyL_ready (rs := [17]) (by kernel_rfl) (by simp) ?_
 refine AllReadyL.last rfl (by kernel_rfl) (fun K hK => ?_) AllReadyL.nil
 go_simp
 refine hK.out _ _ ?_
 clear hK K
 try simp only [Act.put, List.getElem_toArray, List.getElem_cons_zero, List.getElem_cons_succ, List.setIfInBounds_toArray, List.set_cons_zero, List.set_cons_succ]
 refine wpAnyL_done (by kernel_rfl) ?_ _
 clear f0 e2 k0 m0 m6 hHeld
 go_wp2_with fail
 refine Hput.out.mono ?_
 rintro e w5 ⟨rfl, hE6, hb26⟩
 have hb6 := Hb5.out.trans hb26
 have hst := site_em (i := i) hE6 Hga.out (fun W E' hW => HP.out W E' hW.drop) HS.out hn (fun W hW => HKD.out W (hb6.trans hW)) (fun W hW => HT.out W (hb6.trans hW)) hns hi (by rw [sz_put, sz_call, sz_mark]; simp only [List.length_singleton]; omega)
 clear g0 hrun
 obtain ⟨HE6, Hb26, Hb6, Hst⟩ := hd4 hE6 hb26 hb6 hst
 clear hst hb6 hb26 hE6
 go_wp2_with fail
 refine Hst.out.mono ?_
 rintro e w3 ⟨rfl, hE3, hb23⟩
 have hfin := Hb6.out.trans hb23
 have hE4 := hE3.drop
 rw [HR.out] at hE4
 obtain ⟨HE3, Hb23, Hfin, HE4⟩ := hd4 hE3 hb23 hfin hE4
 clear hE4 hfin hb23 hE3
 go_wp2_with fail
 go_end0
 exact ⟨rfl, HE4.out, Hfin.out⟩
end
end Go.Proofs.YtnfjjliiajaijaaDoor
namespace Go.Proofs.YtnfjjliiajaijaaDoor
open Go.RowKit
structure Fam where
 g : Nat → Nat
 h : Nat → Nat
 c : Nat → Nat
 cur : Nat → Array Value
def famG (n : Nat) (F : Fam) (k : Nat) : It := .blk (F.g k) 145 #[.int .i64 (n : Nat), .slice (some ⟨F.h k, 0, none⟩) ((n + 63) / 64) (F.c k)]
def famH (F : Fam) (k : Nat) : It := .blk (F.h k) 53 (F.cur k)
def famIts (n M : Nat) (F : Fam) : List It := (List.range (2 * M)).map fun i => if i % 2 = 0 then famG n F (i / 2) else famH F (i / 2)
def FamOK (n M : Nat) (F : Fam) (S : Sets) : Prop := n ≤ 1048576 ∧ ∀ k, k < M → (n + 63) / 64 ≤ F.c k ∧ F.c k ≤ maxLen ∧ ∀ j, j < (n + 63) / 64 → (F.cur k)[j]? = some (.int .u64 ((wordS (S k) j : Nat) : Int))
section
variable {n M k : Nat} {F F' : Fam} {S : Sets}
theorem famIts_len : (famIts n M F).length = 2 * M := by simp [famIts]
theorem famIts_g (h : k < M) : (famIts n M F)[2 * k]? = some (famG n F k) := by
 unfold famIts
 rw [List.getElem?_map, List.getElem?_range (by omega)]
 simp [show 2 * k % 2 = 0 by omega, show 2 * k / 2 = k by omega]
theorem famIts_h (h : k < M) : (famIts n M F)[2 * k + 1]? = some (famH F k) := by
 unfold famIts
 rw [List.getElem?_map, List.getElem?_range (by omega)]
 simp [show (2 * k + 1) % 2 = 1 by omega, show (2 * k + 1) / 2 = k by omega]
theorem famIts_congr (h : ∀ k, k < M → F.g k = F'.g k ∧ F.h k = F'.h k ∧ F.c k = F'.c k ∧ F.cur k = F'.cur k) : famIts n M F = famIts n M F' := by
 unfold famIts
 refine List.map_congr_left fun i hi => ?_
 rw [List.mem_range] at hi
 obtain ⟨h1, h2, h3, h4⟩ := h (i / 2) (by omega)
 unfold famG famH
 rw [h1, h2, h3, h4]
theorem famIts_set (h : k < M) (cur : Array Value) : (famIts n M F).set (2 * k + 1) (.blk (F.h k) 53 cur) = famIts n M { F with cur := setAt F.cur k cur } := by
 refine List.ext_getElem? fun i => ?_
 rw [List.getElem?_set, famIts_len]
 by_cases hi : 2 * k + 1 = i
 ·subst hi
  rw [if_pos rfl, if_pos (by omega), famIts_h h]
  show some (It.blk (F.h k) _ cur) = some (It.blk (F.h k) _ (setAt F.cur k cur k))
  rw [setAt_at]
 ·rw [if_neg hi]
  unfold famIts
  rw [List.getElem?_map, List.getElem?_map]
  by_cases h2 : i < 2 * M
  ·rw [List.getElem?_range h2]
   simp only [Option.map_some]
   by_cases h3 : i % 2 = 0
   ·rw [if_pos h3, if_pos h3]; rfl
   ·rw [if_neg h3, if_neg h3]
    show some (It.blk (F.h (i / 2)) _ (F.cur (i / 2))) = some (It.blk (F.h (i / 2)) _ (setAt F.cur k cur (i / 2)))
    rw [setAt_ne (by omega)]
  ·rw [List.getElem?_eq_none (by simp; omega)]; rfl
theorem famIts_snoc : famIts n (M + 1) F = famIts n M F ++ [famG n F M, famH F M] := by
 unfold famIts
 rw [show 2 * (M + 1) = 2 * M + 1 + 1 by omega, List.range_succ, List.range_succ, List.append_assoc, List.map_append]
 simp [show 2 * M % 2 = 0 by omega, show 2 * M / 2 = M by omega, show (2 * M + 1) % 2 = 1 by omega, show (2 * M + 1) / 2 = M by omega]
theorem FamOK.set (h : FamOK n M F S) {cur : Array Value} {P : Nat → Bool} (hc : ∀ j, j < (n + 63) / 64 → cur[j]? = some (.int .u64 ((wordS P j : Nat) : Int))) : FamOK n M { F with cur := setAt F.cur k cur } (setAt S k P) := by
 refine ⟨h.1, fun k' hk' => ?_⟩
 obtain ⟨h1, h2, h3⟩ := h.2 k' hk'
 refine ⟨h1, h2, fun j hj => ?_⟩
 by_cases he : k' = k
 ·subst he
  show (setAt F.cur k' cur k')[j]? = _
  rw [setAt_at, setAt_at]; exact hc j hj
 ·show (setAt F.cur k cur k')[j]? = _
  rw [setAt_ne he, setAt_ne he]; exact h3 j hj
end
section
variable {w w' : World} {base : Nat} {X : EmX} {E : EmS} {rest rest' l1 l2 : List It} {x x' y : It} {n M k i : Nat} {F : Fam} {S : Sets} {P : Nat → Bool}
theorem EmAt.idx (h : EmAt w base X E rest) (hi : rest[i]? = some x) : x.At w base := by
 obtain ⟨cv, sv, zv, nv, Mc, J, L, lvs, h1, hI⟩ := h
 exact hI.each x (List.mem_append_right _ (List.mem_append_right _ (List.mem_of_getElem? hi)))
theorem EmAt.changeR (h : EmAt w base X E rest) (hi : rest[i]? = some x) (hg : w.grownBy w' x.block) (hx : x'.At w' base) (hb : x'.block = x.block ∨ ∀ b, x'.block = some b → w.heap.size ≤ b) : EmAt w' base X E (rest.set i x') := by
 obtain ⟨cv, sv, zv, nv, Mc, J, L, lvs, h1, hI⟩ := h
 obtain ⟨a, ha⟩ : ∃ a, (emItems X E cv sv zv nv Mc J L lvs).length + (liveRows E.sites lvs).length = a := ⟨_, rfl⟩
 have hi' : (emItems X E cv sv zv nv Mc J L lvs ++ (liveRows E.sites lvs ++ rest))[a + i]? = some x := by
  rw [List.getElem?_append_right (by omega), List.getElem?_append_right (by omega), ← hi]
  congr 1; omega
 have hI2 := hI.change hi' hg hx hb
 refine ⟨cv, sv, zv, nv, Mc, J, L, lvs, h1, ?_⟩
 rw [List.set_append_right _ _ (by omega), List.set_append_right _ _ (by omega), show a + i - (emItems X E cv sv zv nv Mc J L lvs).length - (liveRows E.sites lvs).length = i by omega] at hI2
 exact hI2
theorem EmAt.subR (h : EmAt w base X E rest) (hs : rest'.Sublist rest) : EmAt w base X E rest' := by
 obtain ⟨cv, sv, zv, nv, Mc, J, L, lvs, h1, hI⟩ := h
 exact ⟨cv, sv, zv, nv, Mc, J, L, lvs, h1, hI.sub ((List.Sublist.refl _).append ((List.Sublist.refl _).append hs))⟩
theorem EmAt.extend2 (h : EmAt w base X E rest) (hg : w.grownBy w' none) (hx : x.At w' base) (hy : y.At w' base) (hbx : ∀ b, x.block = some b → w.heap.size ≤ b) (hby : ∀ b, y.block = some b → w.heap.size ≤ b) (hxy : ∀ b, x.block = some b → y.block ≠ some b) : EmAt w' base X E (x :: y :: rest) := by
 have h1 := h.extend hg hy hby
 obtain ⟨cv, sv, zv, nv, Mc, J, L, lvs, hl, hI⟩ := h
 obtain ⟨l, hle⟩ : ∃ l, emItems X E cv sv zv nv Mc J L lvs ++ (liveRows E.sites lvs ++ rest) = l := ⟨_, rfl⟩
 rw [hle] at hI
 have hI1 : Items w' base (y :: l) := hI.new hg hy hby
 have hI2 : Items w' base (x :: y :: l) := hI1.cons hx fun b hb z hz => by
  rcases List.mem_cons.1 hz with rfl | hz
  ·exact hxy b hb
  ·intro hzb
   have h1 := hbx b hb
   have h2 := ((hI.each z hz).lt b hzb).2
   omega
 refine ⟨cv, sv, zv, nv, Mc, J, L, lvs, hl, hI2.perm ?_⟩
 rw [← hle, ← List.append_assoc, ← List.append_assoc]
 exact (List.perm_middle.symm.cons x).trans List.perm_middle.symm
theorem FamOK.setF (ok : FamOK n M F S) (hk : k < M) (hg : (famG n F k).At w base) (hh : (famH F k).At w base) : SetF w (F.g k) (F.h k) n (S k) := by
 obtain ⟨h1, h2, h3⟩ := ok.2 k hk
 exact ⟨⟨F.c k, h1, h2, hg.2⟩, ⟨F.cur k, hh.2, h3⟩, ok.1⟩
theorem EmAt.fam (h : EmAt w base X E (l1 ++ (famIts n M F ++ l2))) (ok : FamOK n M F S) (hk : k < M) : SetF w (F.g k) (F.h k) n (S k) := by
 have h1 : (l1 ++ (famIts n M F ++ l2))[l1.length + 2 * k]? = some (famG n F k) := by
  rw [List.getElem?_append_right (by omega), List.getElem?_append_left (by rw [famIts_len]; omega), ← famIts_g hk]
  congr 1; omega
 have h2 : (l1 ++ (famIts n M F ++ l2))[l1.length + (2 * k + 1)]? = some (famH F k) := by
  rw [List.getElem?_append_right (by omega), List.getElem?_append_left (by rw [famIts_len]; omega), ← famIts_h (n := n) hk]
  congr 1; omega
 exact ok.setF hk (h.idx h1) (h.idx h2)
/-- one of the sets changes -/
theorem EmAt.famPut (h : EmAt w base X E (l1 ++ (famIts n M F ++ l2))) (ok : FamOK n M F S) (hk : k < M) (hg : w.grownBy w' (some (F.h k))) (hs : SetF w' (F.g k) (F.h k) n P) : ∃ F', F'.g = F.g ∧ F'.h = F.h ∧ EmAt w' base X E (l1 ++ (famIts n M F' ++ l2)) ∧ FamOK n M F' (setAt S k P) := by
 obtain ⟨cur, hcur, hc⟩ := hs.words
 have h2 : (l1 ++ (famIts n M F ++ l2))[l1.length + (2 * k + 1)]? = some (famH F k) := by
  rw [List.getElem?_append_right (by omega), List.getElem?_append_left (by rw [famIts_len]; omega), ← famIts_h (n := n) hk]
  congr 1; omega
 have h3 := h.changeR h2 hg (x' := .blk (F.h k) 53 cur) ⟨(h.idx h2).1, hcur⟩ (.inl rfl)
 refine ⟨{ F with cur := setAt F.cur k cur }, rfl, rfl, ?_, ok.set hc⟩
 rw [List.set_append_right _ _ (by omega), show l1.length + (2 * k + 1) - l1.length = 2 * k + 1 by omega, List.set_append_left _ _ (by rw [famIts_len]; omega), famIts_set hk] at h3
 exact h3
theorem EmAt.famLt (h : EmAt w base X E (l1 ++ (famIts n M F ++ l2))) (hk : k < M) : base ≤ F.g k ∧ base ≤ F.h k ∧ F.h k < w.heap.size := by
 have h1 : (l1 ++ (famIts n M F ++ l2))[l1.length + 2 * k]? = some (famG n F k) := by
  rw [List.getElem?_append_right (by omega), List.getElem?_append_left (by rw [famIts_len]; omega), ← famIts_g hk]
  congr 1; omega
 have h2 : (l1 ++ (famIts n M F ++ l2))[l1.length + (2 * k + 1)]? = some (famH F k) := by
  rw [List.getElem?_append_right (by omega), List.getElem?_append_left (by rw [famIts_len]; omega), ← famIts_h (n := n) hk]
  congr 1; omega
 exact ⟨(h.idx h1).1, (h.idx h2).1, (h.idx h2).2.lt⟩
/-- a set of its own is laid ahead of the rest -/
theorem EmAt.famOne {g h' : Nat} (h : EmAt w base X E rest) (hb : Below w.heap.size w w') (hg : w.heap.size ≤ g) (hh : w.heap.size ≤ h') (hs : SetF w' g h' n P) : ∃ F', F'.g 0 = g ∧ F'.h 0 = h' ∧ EmAt w' base X E (famIts n 1 F' ++ rest) ∧ FamOK n 1 F' (fun _ => P) := by
 have hne := hs.ne
 have hbz := h.size
 obtain ⟨c, h1, h2, hbg⟩ := hs.top
 obtain ⟨cur, hbh, h3⟩ := hs.words
 refine ⟨⟨fun _ => g, fun _ => h', fun _ => c, fun _ => cur⟩, rfl, rfl, ?_, hs.le, fun _ _ => ⟨h1, h2, h3⟩⟩
 exact h.extend2 (x := famG n ⟨fun _ => g, fun _ => h', fun _ => c, fun _ => cur⟩ 0) (y := famH ⟨fun _ => g, fun _ => h', fun _ => c, fun _ => cur⟩ 0) (only_of_below hb none) ⟨Nat.le_trans hbz hg, hbg⟩ ⟨Nat.le_trans hbz hh, hbh⟩ (fun b e => by injection e with e; subst e; exact hg) (fun b e => by injection e with e; subst e; exact hh) (fun b e e' => by injection e with e; injection e' with e'; exact hne (e.trans e'.symm))
/-- a set of the family gets another one's numbers -/
theorem or_fam {g2 h2 : Nat} {T : Nat → Bool} (h : EmAt w base X E (l1 ++ (famIts n M F ++ l2))) (ok : FamOK n M F S) (hk : k < M) (ht : SetF w g2 h2 n T) (hT : ∀ i, n ≤ i → T i = false) (htab : TabX w) (htb : 1 < base) :
  Calls Tryd.prog 62 #[.pointer (some ⟨F.g k, 0, none⟩), .pointer (some ⟨g2, 0, none⟩)] w fun e w' => e = .returned (.bool (newS n (S k) T)) ∧ (∃ F', F'.g = F.g ∧ F'.h = F.h ∧ EmAt w' base X E (l1 ++ (famIts n M F' ++ l2)) ∧ FamOK n M F' (setAt S k (orS (S k) T))) ∧ Below base w w' := by
 obtain ⟨_, hl2, _⟩ := h.famLt hk
 refine (orF_any (h.fam ok hk) ht hT htab (by omega)).mono ?_
 rintro e w' ⟨he, hs, hg⟩
 exact ⟨he, h.famPut ok hk hg hs, (Below.refl base w).grown hg h.size (fun b e => by injection e with e; omega)⟩
theorem add_fam {p : Nat} (h : EmAt w base X E (l1 ++ (famIts n M F ++ l2))) (ok : FamOK n M F S) (hk : k < M) (hp : p < n) :
  Calls Tryd.prog 65 #[.pointer (some ⟨F.g k, 0, none⟩), .int .i64 (p : Nat)] w fun e w' => (∃ b, e = .returned (.bool b)) ∧ (∃ F', F'.g = F.g ∧ F'.h = F.h ∧ EmAt w' base X E (l1 ++ (famIts n M F' ++ l2)) ∧ FamOK n M F' (setAt S k (addS (S k) p))) ∧ Below base w w' := by
 obtain ⟨_, hl2, _⟩ := h.famLt hk
 refine (addF_any (h.fam ok hk) hp).mono ?_
 rintro e w' ⟨he, hs, hg⟩
 exact ⟨⟨_, he⟩, h.famPut ok hk hg hs, (Below.refl base w).grown hg h.size (fun b e => by injection e with e; omega)⟩
theorem del_fam {p : Nat} (h : EmAt w base X E (l1 ++ (famIts n M F ++ l2))) (ok : FamOK n M F S) (hk : k < M) (hp : p < n) :
  Calls Tryd.prog 64 #[.pointer (some ⟨F.g k, 0, none⟩), .int .i64 (p : Nat)] w fun e w' => (∃ b, e = .returned (.bool b)) ∧ (∃ F', F'.g = F.g ∧ F'.h = F.h ∧ EmAt w' base X E (l1 ++ (famIts n M F' ++ l2)) ∧ FamOK n M F' (setAt S k (delS (S k) p))) ∧ Below base w w' := by
 obtain ⟨_, hl2, _⟩ := h.famLt hk
 refine (delF_any (h.fam ok hk) hp).mono ?_
 rintro e w' ⟨he, hs, hg⟩
 exact ⟨⟨_, he⟩, h.famPut ok hk hg hs, (Below.refl base w).grown hg h.size (fun b e => by injection e with e; omega)⟩
theorem copy_fam (h : EmAt w base X E (l1 ++ (famIts n M F ++ l2))) (ok : FamOK n M F S) (hk : k < M) (hn : 0 < n) :
  Calls Tryd.prog 63 #[.pointer (some ⟨F.g k, 0, none⟩)] w fun e w' => ∃ F1, e = .returned (.pointer (some ⟨F1.g 0, 0, none⟩)) ∧ EmAt w' base X E (famIts n 1 F1 ++ (l1 ++ (famIts n M F ++ l2))) ∧ FamOK n 1 F1 (fun _ => S k) ∧ Below base w w' := by
 refine (copyF_any (h.fam ok hk) hn).mono ?_
 rintro e w' ⟨g', h', he, hg, hh, hs, hb⟩
 obtain ⟨F1, e1, _, h3, h4⟩ := h.famOne hb hg hh hs
 exact ⟨F1, by rw [e1]; exact he, h3, h4, hb.mono h.size⟩
end
end Go.Proofs.YtnfjjliiajaijaaDoor
namespace Go.Proofs.YtnfjjliiajaijaaDoor
open Go.RowKit
/-- a list answered, in memory of its own -/
def OwnL (B : Nat) (w : World) (v : Value) (l : List Int) : Prop := w.ownsRow B 3 1 v l.length (l.map (Value.int .i64))
theorem OwnL.nil (B : Nat) (w : World) : OwnL B w (.slice none 0 0) [] := World.ownsRow_nil _ _ _ _
theorem OwnL.lower {B B' : Nat} {w : World} {v : Value} {l : List Int} (h : OwnL B w v l) (hb : B' ≤ B) : OwnL B' w v l := own_base h hb
theorem OwnL.new {B : Nat} (w : World) (l : List Int) (hl : l.length ≤ 100) {g n : Nat} {cs : Array Value} (hg : g = w.heap.size) (hn : n = l.length) (hc : cs = (l.map (Value.int .i64)).toArray) (hB : B ≤ w.heap.size) : OwnL B (w.alloc (.cells cs 3)) (.slice (some ⟨g, 0, none⟩) n n) l := by
 subst hg hn hc
 exact own_of_blk (Blk.new w 3 _) hB (by simp) (by simp) (by unfold maxLen; omega)
theorem next_own (w : World) (x : NodeD) (av : Value) :
  Calls Tryd.prog 54 #[.agg (ncells x av).toArray] w fun e w' => (∃ v, e = .returned v ∧ OwnL w.heap.size w' v (nextL x)) ∧ Below w.heap.size w w' := by
 obtain ⟨op, byo, d, e, a, b, f, cell, imm, args, next, els⟩ := x
 have hP := Blk.new w 55 #[.int .u8 op, .int .u8 byo, .int .i64 d, .int .i64 e, .int .i64 a, .int .i64 b, .int .i64 f, .int .i64 cell, .int .u64 imm, av, .int .i64 next, .int .i64 els]
 have kp0 := Blk.cell hP 0
 have kp10 := Blk.cell hP 10
 have kp11 := Blk.cell hP 11
 simp only [List.getElem?_toArray, List.getElem?_cons_zero, List.getElem?_cons_succ] at kp0 kp10 kp11
 have hb := (Below.refl w.heap.size w).alloc (Nat.le_refl _) (.cells #[.int .u8 op, .int .u8 byo, .int .i64 d, .int .i64 e, .int .i64 a, .int .i64 b, .int .i64 f, .int .i64 cell, .int .u64 imm, av, .int .i64 next, .int .i64 els] 55)
 simp only [ncells]
 obtain ⟨N, hN⟩ : ∃ N, nextL ⟨op, byo, d, e, a, b, f, cell, imm, args, next, els⟩ = N := ⟨_, rfl⟩
 rw [hN]
 unfold nextL at hN
 simp only at hN
 by_cases e12 : op = 12 ∨ op = 14 ∨ op = 18
 ·rw [if_pos e12] at hN
  subst hN
  obtain ⟨Hb, HP⟩ := hd2 hb hP
  clear hP hb
  rcases e12 with rfl | rfl | rfl
  all_goals
   go_enter Tryd.func54, Tryd.ntmps54
   go_wp2_with fail
   go_ret
   exact ⟨⟨_, rfl, OwnL.nil _ _⟩, Hb.out⟩
 ·rw [if_neg e12] at hN
  have b12 : (op == 12) = false := by rw [beq_eq_false_iff_ne]; omega
  have b14 : (op == 14) = false := by rw [beq_eq_false_iff_ne]; omega
  have b18 : (op == 18) = false := by rw [beq_eq_false_iff_ne]; omega
  by_cases e9 : op = 9
  ·subst e9
   by_cases en : els = next
   ·have bn : (els != next) = false := by simp [en]
    rw [if_neg (fun h => h.2 en), if_neg (by omega)] at hN
    subst hN
    obtain ⟨Hb, HP, Hen, He12⟩ := hd4 hb hP en e12
    clear e12 en hP hb
    go_enter Tryd.func54, Tryd.ntmps54
    go_wp2_with fail
    go_ret
    exact ⟨⟨_, rfl, OwnL.new _ [next] (by simp) (by simp) rfl rfl Hb.out.size⟩, Hb.out.alloc Hb.out.size _⟩
   ·have bn : (els != next) = true := by simp [en]
    rw [if_pos ⟨rfl, en⟩] at hN
    subst hN
    obtain ⟨Hb, HP, Hen, He12⟩ := hd4 hb hP en e12
    clear e12 en hP hb
    go_enter Tryd.func54, Tryd.ntmps54
    go_wp2_with fail
    go_ret
    exact ⟨⟨_, rfl, OwnL.new _ [next, els] (by simp) (by simp) rfl rfl Hb.out.size⟩, Hb.out.alloc Hb.out.size _⟩
  ·have b9 : (op == 9) = false := by rw [beq_eq_false_iff_ne]; omega
   rw [if_neg (fun h => e9 h.1)] at hN
   have hcase : (op < 1 ∧ N = []) ∨ (¬ op < 1 ∧ 18 < op ∧ N = []) ∨ (¬ op < 1 ∧ ¬ 18 < op ∧ N = [next]) := by
    by_cases h1 : op < 1
    ·rw [if_pos (.inl h1)] at hN; exact .inl ⟨h1, hN.symm⟩
    ·by_cases h2 : 18 < op
     ·rw [if_pos (.inr h2)] at hN; exact .inr (.inl ⟨h1, h2, hN.symm⟩)
     ·rw [if_neg (by omega)] at hN; exact .inr (.inr ⟨h1, h2, hN.symm⟩)
   obtain ⟨Hb, HP, He12, He9, HN⟩ := hd5 hb hP e12 e9 hN
   clear hN e9 e12 hP hb
   rcases hcase with ⟨h1, rfl⟩ | ⟨h1, h2, rfl⟩ | ⟨h1, h2, rfl⟩
   ·go_enter Tryd.func54, Tryd.ntmps54
    go_wp2_with fail
    go_ret
    exact ⟨⟨_, rfl, OwnL.nil _ _⟩, Hb.out⟩
   ·go_enter Tryd.func54, Tryd.ntmps54
    go_wp2_with fail
    go_ret
    exact ⟨⟨_, rfl, OwnL.nil _ _⟩, Hb.out⟩
   ·go_enter Tryd.func54, Tryd.ntmps54
    go_wp2_with fail
    go_ret
    exact ⟨⟨_, rfl, OwnL.new _ [next] (by simp) (by simp) rfl rfl Hb.out.size⟩, Hb.out.alloc Hb.out.size _⟩
theorem once_own (w : World) (D : Nat) (hD : D ≤ w.heap.size) (A : Option Addr) (m c : Nat) (ps : List Int) (hP : Reads w D 1 A m (ps.map (Value.int .i64))) (hm : ps.length = m) (hmc : m * 8 ≤ 140737488351232) :
  Calls Tryd.prog 56 #[.slice A m c] w fun e w' => (∃ v, e = .returned v ∧ OwnL w.heap.size w' v (onceL ps)) ∧ Below w.heap.size w w' := by
 obtain ⟨i0, hi0, hz0, hz1, hz2⟩ := info_parts infoIntr
 obtain ⟨HP, Hm⟩ := hd2 hP hm
 clear hm hP
 go_enter Tryd.func56, Tryd.ntmps56
 go_wp2_with fail
 go_loopw [3, 8] (fun v i wq => ∃ j k : Nat, j ≤ m ∧ k ≤ j ∧ i = .int .i64 j ∧ Hid ((onceL (ps.take j)).length = k) ∧ wq.ownsRow w.heap.size 3 1 v k ((onceL (ps.take j)).map (Value.int .i64)) ∧ Below w.heap.size w wq) (fun _ i _ => m - (intOf i).toNat)
 case atStart => exact ⟨0, 0, by omega, by omega, rfl, Lib.hid rfl, World.ownsRow_nil _ _ _ _, Below.refl _ _⟩
 case round =>
  obtain ⟨j, k, hj, hk, rfl, hkl, hown, hbq⟩ := hrel
  by_cases hjm : j < m
  ·obtain ⟨ad, u0, hA, _, hu0, hce⟩ := (HP.out.below (hbq.mono hD)).at_ hjm
   subst hA
   obtain ⟨p, hpj, rfl⟩ : ∃ p, ps[j]? = some p ∧ u0 = .int .i64 p := by
    rw [List.getElem?_map, Option.map_eq_some_iff] at hu0
    obtain ⟨x, h1, h2⟩ := hu0
    exact ⟨x, h1, h2.symm⟩
   have htake : ps.take (j + 1) = ps.take j ++ [p] := by rw [List.take_add_one, hpj]; rfl
   have hmore := once_more (ps.take j) p
   rw [← htake] at hmore
   obtain ⟨O, hO⟩ : ∃ O, onceL (ps.take j) = O := ⟨_, rfl⟩
   rw [hO] at hkl hown hmore
   obtain ⟨OA, oc, rfl, hko, hoc, hOr⟩ := own_any hown
   clear hu0
   by_cases hp0 : 0 ≤ p
   ·obtain ⟨bc, hbc⟩ : ∃ bc, decide (p ∈ O) = bc := ⟨_, rfl⟩
    cases bc
    ·have hnew : onceL (ps.take (j + 1)) = O ++ [p] := by
      rw [hmore, addStep, if_pos ⟨hp0, of_decide_eq_false hbc⟩]
     have hsq := hbq.size
     obtain ⟨Hkl, Hown, Hmore, HO, Htake, Hpj, Hbc, Hnew⟩ := hd8 hkl hown hmore hO htake hpj hbc hnew
     obtain ⟨HOr, Hbq⟩ := hd2 hOr hbq
     clear hbq hOr hnew hbc hpj htake hO hmore hown hkl
     go_wp2_with fail
     refine (contains_any wr wr.heap.size OA k oc O (Reads.of_own Hown.out) Hkl.out (by omega) p).mono ?_
     rintro e w1 ⟨rfl, rfl⟩
     rw [Hbc.out]
     go_wp2_with (first
      | (at_builtin
         refine wpList_append_any _ rfl (.tmp 20) (.tmp 22) _ rfl w.heap.size 3 i0 _ 1 8 Tryd.underlying40 hi0 hz0 hz1 hz2 rfl (by omega) _ k _ rfl (Hown.out.alloc _) (wr.heap.size + 1) (some ⟨wr.heap.size, 0, none⟩) 1 1 [.int .i64 p] rfl (Reads.new1 _ _ _) ?c1 ?c2 ?c3 ?c4 ?_
         case c1 => intro u hu; simp only [List.mem_singleton] at hu; subst hu; rfl
         case c2 => simp only [maxLen]; omega
         case c3 => omega
         case c4 => simp; omega
         intro v9 w9 hown9 hg9 hat9))
     have hb9 := (Hbq.out.alloc (by omega) (.cells #[.int .i64 p] 3)).grown hg9 (by simp; omega) (fun g e => (Hown.out.lt g e).1)
     refine ⟨⟨j + 1, k + 1, by omega, by omega, by go_num, ?_, ?_, hb9⟩, by simp [intOf]; omega⟩
     ·exact Lib.hid (by rw [Hnew.out, List.length_append, Hkl.out]; rfl)
     ·rw [Hnew.out, List.map_append]; exact hown9
    ·have hnew : onceL (ps.take (j + 1)) = O := by
      rw [hmore, addStep, if_neg (fun h => h.2 (of_decide_eq_true hbc))]
     obtain ⟨Hkl, Hown, Hmore, HO, Htake, Hpj, Hbc, Hnew⟩ := hd8 hkl hown hmore hO htake hpj hbc hnew
     obtain ⟨HOr, Hbq⟩ := hd2 hOr hbq
     clear hbq hOr hnew hbc hpj htake hO hmore hown hkl
     go_wp2_with fail
     refine (contains_any wr wr.heap.size OA k oc O (Reads.of_own Hown.out) Hkl.out (by omega) p).mono ?_
     rintro e w1 ⟨rfl, rfl⟩
     rw [Hbc.out]
     go_wp2_with fail
     refine ⟨⟨j + 1, k, by omega, by omega, by go_num, ?_, ?_, Hbq.out⟩, by simp [intOf]; omega⟩
     ·exact Lib.hid (by rw [Hnew.out, Hkl.out])
     ·rw [Hnew.out]; exact Hown.out
   ·have hnew : onceL (ps.take (j + 1)) = O := by
     rw [hmore, addStep, if_neg (fun h => hp0 h.1)]
    obtain ⟨Hkl, Hown, Hmore, HO, Htake, Hpj, Hnew, HOr⟩ := hd8 hkl hown hmore hO htake hpj hnew hOr
    have Hbq := Lib.hid hbq
    clear hbq hOr hnew hpj htake hO hmore hown hkl
    go_wp2_with fail
    refine ⟨⟨j + 1, k, by omega, by omega, by go_num, ?_, ?_, Hbq.out⟩, by simp [intOf]; omega⟩
    ·exact Lib.hid (by rw [Hnew.out, Hkl.out])
    ·rw [Hnew.out]; exact Hown.out
  ·have hfin : onceL (ps.take j) = onceL ps := by rw [List.take_of_length_le (by rw [Hm.out]; omega)]
   rw [hfin] at hown hkl
   have hkl' := hkl.out
   subst hkl'
   have hl := hown
   obtain ⟨Hl, Hkl, Hown, Hbq, Hfin⟩ := hd5 hl hkl hown hbq hfin
   clear hfin hbq hown hkl hl
   go_wp2_with fail
   go_ret
   exact ⟨⟨_, rfl, Hl.out⟩, Hbq.out⟩
theorem reads_own (w : World) (x : NodeD) (av : Value) (D : Nat) (hD : D ≤ w.heap.size) (hav : NumsAt .i64 w D av x.args) (hal : x.args.length * 8 ≤ 140737488351232) :
  Calls Tryd.prog 34 #[.agg (ncells x av).toArray] w fun e w' => (∃ v, e = .returned v ∧ OwnL w.heap.size w' v (readsL x)) ∧ Below w.heap.size w w' := by
 obtain ⟨N, hN⟩ : ∃ N, readsL x = N := ⟨_, rfl⟩
 rw [hN]
 unfold readsL at hN
 obtain ⟨op, byo, d, e_, a, b, f, cell, imm, args, next, els⟩ := x
 simp only at hN hav hal
 obtain ⟨AA, ac, rfl, _, _, hAr⟩ := hav.slice
 obtain ⟨m, hm⟩ : ∃ m, args.length = m := ⟨_, rfl⟩
 rw [hm] at hAr hal
 simp only [ncells, hm]
 obtain ⟨G, hG⟩ : ∃ G, G = w.heap.size := ⟨_, rfl⟩
 have hP := Blk.new w 55 #[.int .u8 op, .int .u8 byo, .int .i64 d, .int .i64 e_, .int .i64 a, .int .i64 b, .int .i64 f, .int .i64 cell, .int .u64 imm, .slice AA m ac, .int .i64 next, .int .i64 els]
 have hb := (Below.refl w.heap.size w).alloc (Nat.le_refl _) (.cells #[.int .u8 op, .int .u8 byo, .int .i64 d, .int .i64 e_, .int .i64 a, .int .i64 b, .int .i64 f, .int .i64 cell, .int .u64 imm, .slice AA m ac, .int .i64 next, .int .i64 els] 55)
 have hA := hAr.below (hb.mono hD)
 rw [← hG] at hP
 have kp0 := Blk.cell hP 0
 have kp4 := Blk.cell hP 4
 have kp5 := Blk.cell hP 5
 have kp9 := Blk.cell hP 9
 simp only [List.getElem?_toArray, List.getElem?_cons_zero, List.getElem?_cons_succ] at kp0 kp4 kp5 kp9
 obtain ⟨V, hV⟩ : ∃ V, V = w.alloc (.cells #[.int .u8 op, .int .u8 byo, .int .i64 d, .int .i64 e_, .int .i64 a, .int .i64 b, .int .i64 f, .int .i64 cell, .int .u64 imm, .slice AA m ac, .int .i64 next, .int .i64 els] 55) := ⟨_, rfl⟩
 rw [← hV] at hb hA hP kp0 kp4 kp5 kp9
 have hDV : D ≤ V.heap.size := Nat.le_trans hD hb.size
 obtain ⟨Hb, HP, HAr, Hav, HA, Hm, HV, HG⟩ := hd8 hb hP hAr hav hA hm hV hG
 clear hG hV hm hA hav hAr hP hb
 by_cases e1 : op = 2 ∨ op = 5 ∨ op = 7 ∨ op = 9 ∨ op = 12 ∨ op = 14 ∨ op = 17 ∨ op = 18
 ·rw [if_pos e1] at hN
  subst hN
  rcases e1 with e | e | e | e | e | e | e | e
  all_goals
   subst e
   go_enter Tryd.func34, Tryd.ntmps34
   go_upto_region 1 with fail
   rw [← HV.out, ← HG.out]
   go_wp2_with fail
   refine (once_own _ (V.heap.size + 1) (by simp) (some ⟨V.heap.size, 0, none⟩) 1 1 [a] (Reads.newL' V 3 [a] rfl rfl rfl) rfl (by omega)).mono ?_
   rintro e w1 ⟨⟨v, rfl, hL⟩, hb1⟩
   have hL := OwnL.lower hL (Nat.le_trans Hb.out.size (by simp))
   have hfin := Hb.out.trans (((Below.refl V.heap.size V).alloc (Nat.le_refl _) (.cells #[.int .i64 a] 3)).trans (hb1.mono (by simp)) |>.mono Hb.out.size)
   obtain ⟨HL, Hfin⟩ := hd2 hL hfin
   clear hfin hL
   clear hb1
   go_wp2_with fail
   go_ret
   exact ⟨⟨_, rfl, HL.out⟩, Hfin.out⟩
 rw [if_neg e1] at hN
 by_cases e2 : op = 3 ∨ op = 8
 ·rw [if_pos e2] at hN
  subst hN
  have He1 := Lib.hid e1
  clear e1
  rcases e2 with e | e
  all_goals
   subst e
   go_enter Tryd.func34, Tryd.ntmps34
   go_upto_region 1 with fail
   rw [← HV.out, ← HG.out]
   go_wp2_with fail
   refine (once_own _ (V.heap.size + 1) (by simp) (some ⟨V.heap.size, 0, none⟩) 2 2 [a, b] (Reads.newL' V 3 [a, b] rfl rfl rfl) rfl (by omega)).mono ?_
   rintro e w1 ⟨⟨v, rfl, hL⟩, hb1⟩
   have hL := OwnL.lower hL (Nat.le_trans Hb.out.size (by simp))
   have hfin := Hb.out.trans (((Below.refl V.heap.size V).alloc (Nat.le_refl _) (.cells #[.int .i64 a, .int .i64 b] 3)).trans (hb1.mono (by simp)) |>.mono Hb.out.size)
   obtain ⟨HL, Hfin⟩ := hd2 hL hfin
   clear hfin hL
   clear hb1
   go_wp2_with fail
   go_ret
   exact ⟨⟨_, rfl, HL.out⟩, Hfin.out⟩
 rw [if_neg e2] at hN
 by_cases e3 : op = 11 ∨ op = 13
 ·rw [if_pos e3] at hN
  subst hN
  obtain ⟨He1, He2⟩ := hd2 e1 e2
  clear e2 e1
  rcases e3 with e | e
  all_goals
   subst e
   go_enter Tryd.func34, Tryd.ntmps34
   go_upto_region 1 with fail
   rw [← HV.out, ← HG.out]
   go_wp2_with fail
   refine (once_own _ D hDV AA m ac args HA.out Hm.out hal).mono ?_
   rintro e w1 ⟨⟨v, rfl, hL⟩, hb1⟩
   have hL := OwnL.lower hL (Nat.le_trans Hb.out.size (by simp))
   have hfin := Hb.out.trans (hb1.mono Hb.out.size)
   obtain ⟨HL, Hfin⟩ := hd2 hL hfin
   clear hfin hL
   clear hb1
   go_wp2_with fail
   go_ret
   exact ⟨⟨_, rfl, HL.out⟩, Hfin.out⟩
 rw [if_neg e3] at hN
 subst hN
 have x2 : (op == 2) = false := by rw [beq_eq_false_iff_ne]; omega
 have x3 : (op == 3) = false := by rw [beq_eq_false_iff_ne]; omega
 have x5 : (op == 5) = false := by rw [beq_eq_false_iff_ne]; omega
 have x7 : (op == 7) = false := by rw [beq_eq_false_iff_ne]; omega
 have x8 : (op == 8) = false := by rw [beq_eq_false_iff_ne]; omega
 have x9 : (op == 9) = false := by rw [beq_eq_false_iff_ne]; omega
 have x11 : (op == 11) = false := by rw [beq_eq_false_iff_ne]; omega
 have x12 : (op == 12) = false := by rw [beq_eq_false_iff_ne]; omega
 have x13 : (op == 13) = false := by rw [beq_eq_false_iff_ne]; omega
 have x14 : (op == 14) = false := by rw [beq_eq_false_iff_ne]; omega
 have x17 : (op == 17) = false := by rw [beq_eq_false_iff_ne]; omega
 have x18 : (op == 18) = false := by rw [beq_eq_false_iff_ne]; omega
 obtain ⟨He1, He2, He3⟩ := hd3 e1 e2 e3
 clear e3 e2 e1
 go_enter Tryd.func34, Tryd.ntmps34
 go_upto_region 1 with fail
 rw [← HV.out, ← HG.out]
 go_wp2_with fail
 go_ret
 exact ⟨⟨_, rfl, OwnL.nil _ _⟩, Hb.out⟩
theorem writes_own (w : World) (x : NodeD) (av : Value) :
  Calls Tryd.prog 35 #[.agg (ncells x av).toArray] w fun e w' => (∃ v, e = .returned v ∧ OwnL w.heap.size w' v (writesL x)) ∧ Below w.heap.size w w' := by
 obtain ⟨N, hN⟩ : ∃ N, writesL x = N := ⟨_, rfl⟩
 rw [hN]
 unfold writesL at hN
 obtain ⟨op, byo, d, e_, a, b, f, cell, imm, args, next, els⟩ := x
 simp only at hN
 simp only [ncells]
 obtain ⟨G, hG⟩ : ∃ G, G = w.heap.size := ⟨_, rfl⟩
 have hP := Blk.new w 55 #[.int .u8 op, .int .u8 byo, .int .i64 d, .int .i64 e_, .int .i64 a, .int .i64 b, .int .i64 f, .int .i64 cell, .int .u64 imm, av, .int .i64 next, .int .i64 els]
 have hb := (Below.refl w.heap.size w).alloc (Nat.le_refl _) (.cells #[.int .u8 op, .int .u8 byo, .int .i64 d, .int .i64 e_, .int .i64 a, .int .i64 b, .int .i64 f, .int .i64 cell, .int .u64 imm, av, .int .i64 next, .int .i64 els] 55)
 rw [← hG] at hP
 have kp0 := Blk.cell hP 0
 have kp2 := Blk.cell hP 2
 have kp3 := Blk.cell hP 3
 simp only [List.getElem?_toArray, List.getElem?_cons_zero, List.getElem?_cons_succ] at kp0 kp2 kp3
 obtain ⟨V, hV⟩ : ∃ V, V = w.alloc (.cells #[.int .u8 op, .int .u8 byo, .int .i64 d, .int .i64 e_, .int .i64 a, .int .i64 b, .int .i64 f, .int .i64 cell, .int .u64 imm, av, .int .i64 next, .int .i64 els] 55) := ⟨_, rfl⟩
 rw [← hV] at hb hP kp0 kp2 kp3
 obtain ⟨Hb, HP, HV, HG⟩ := hd4 hb hP hV hG
 clear hG hV hP hb
 by_cases e1 : op = 1 ∨ op = 2 ∨ op = 3 ∨ op = 4 ∨ op = 6 ∨ op = 7 ∨ op = 11 ∨ op = 16
 ·rw [if_pos e1] at hN
  subst hN
  rcases e1 with e | e | e | e | e | e | e | e
  all_goals
   subst e
   go_enter Tryd.func35, Tryd.ntmps35
   go_upto_region 1 with fail
   rw [← HV.out, ← HG.out]
   go_wp2_with fail
   refine (once_own _ (V.heap.size + 1) (by simp) (some ⟨V.heap.size, 0, none⟩) 1 1 [d] (Reads.newL' V 3 [d] rfl rfl rfl) rfl (by omega)).mono ?_
   rintro e w1 ⟨⟨v, rfl, hL⟩, hb1⟩
   have hL := OwnL.lower hL (Nat.le_trans Hb.out.size (by simp))
   have hfin := Hb.out.trans (((Below.refl V.heap.size V).alloc (Nat.le_refl _) (.cells #[.int .i64 d] 3)).trans (hb1.mono (by simp)) |>.mono Hb.out.size)
   obtain ⟨HL, Hfin⟩ := hd2 hL hfin
   clear hfin hL
   clear hb1
   go_wp2_with fail
   go_ret
   exact ⟨⟨_, rfl, HL.out⟩, Hfin.out⟩
 rw [if_neg e1] at hN
 by_cases e2 : op = 15
 ·rw [if_pos e2] at hN
  subst hN
  have He1 := Lib.hid e1
  clear e1
  subst e2
  go_enter Tryd.func35, Tryd.ntmps35
  go_upto_region 1 with fail
  rw [← HV.out, ← HG.out]
  go_wp2_with fail
  refine (once_own _ (V.heap.size + 1) (by simp) (some ⟨V.heap.size, 0, none⟩) 2 2 [d, e_] (Reads.newL' V 3 [d, e_] rfl rfl rfl) rfl (by omega)).mono ?_
  rintro e w1 ⟨⟨v, rfl, hL⟩, hb1⟩
  have hL := OwnL.lower hL (Nat.le_trans Hb.out.size (by simp))
  have hfin := Hb.out.trans (((Below.refl V.heap.size V).alloc (Nat.le_refl _) (.cells #[.int .i64 d, .int .i64 e_] 3)).trans (hb1.mono (by simp)) |>.mono Hb.out.size)
  obtain ⟨HL, Hfin⟩ := hd2 hL hfin
  clear hfin hL
  clear hb1
  go_wp2_with fail
  go_ret
  exact ⟨⟨_, rfl, HL.out⟩, Hfin.out⟩
 rw [if_neg e2] at hN
 subst hN
 have x1 : (op == 1) = false := by rw [beq_eq_false_iff_ne]; omega
 have x2 : (op == 2) = false := by rw [beq_eq_false_iff_ne]; omega
 have x3 : (op == 3) = false := by rw [beq_eq_false_iff_ne]; omega
 have x4 : (op == 4) = false := by rw [beq_eq_false_iff_ne]; omega
 have x6 : (op == 6) = false := by rw [beq_eq_false_iff_ne]; omega
 have x7 : (op == 7) = false := by rw [beq_eq_false_iff_ne]; omega
 have x11 : (op == 11) = false := by rw [beq_eq_false_iff_ne]; omega
 have x15 : (op == 15) = false := by rw [beq_eq_false_iff_ne]; omega
 have x16 : (op == 16) = false := by rw [beq_eq_false_iff_ne]; omega
 obtain ⟨He1, He2⟩ := hd2 e1 e2
 clear e2 e1
 go_enter Tryd.func35, Tryd.ntmps35
 go_upto_region 1 with fail
 rw [← HV.out, ← HG.out]
 go_wp2_with fail
 go_ret
 exact ⟨⟨_, rfl, OwnL.nil _ _⟩, Hb.out⟩
end Go.Proofs.YtnfjjliiajaijaaDoor
namespace Go.Proofs.YtnfjjliiajaijaaDoor
open Go.RowKit
def ptrs (G : Nat → Nat) (o j N : Nat) : List Value := (List.range N).map fun k => if k < j then .pointer (some ⟨G (2 * k + o), 0, none⟩) else .pointer none
section
variable {G G' : Nat → Nat} {o j k N : Nat}
theorem ptrs_len : (ptrs G o j N).length = N := by simp [ptrs]
theorem ptrs_zero : ptrs G o 0 N = List.replicate N (.pointer none) := by
 unfold ptrs
 refine List.ext_getElem? fun k => ?_
 rw [List.getElem?_map, List.getElem?_replicate]
 by_cases hk : k < N
 ·rw [List.getElem?_range hk, if_pos hk]; rfl
 ·rw [List.getElem?_eq_none (by simp; omega), if_neg hk]; rfl
theorem ptrs_get (hk : k < N) (hj : k < j) : (ptrs G o j N)[k]? = some (.pointer (some ⟨G (2 * k + o), 0, none⟩)) := by
 unfold ptrs
 rw [List.getElem?_map, List.getElem?_range hk]
 simp [hj]
theorem ptrs_set (h : ∀ k, k < j → G' (2 * k + o) = G (2 * k + o)) (hj : j < N) : (ptrs G o j N).set j (.pointer (some ⟨G' (2 * j + o), 0, none⟩)) = ptrs G' o (j + 1) N := by
 refine List.ext_getElem? fun k => ?_
 rw [List.getElem?_set, ptrs_len]
 unfold ptrs
 by_cases hk : j = k
 ·subst hk
  rw [if_pos rfl, if_pos hj, List.getElem?_map, List.getElem?_range hj]
  simp
 ·rw [if_neg hk, List.getElem?_map, List.getElem?_map]
  by_cases hkN : k < N
  ·rw [List.getElem?_range hkN]
   simp only [Option.map_some]
   by_cases hkj : k < j
   ·rw [if_pos hkj, if_pos (by omega), h k hkj]
   ·rw [if_neg hkj, if_neg (by omega)]
  ·rw [List.getElem?_eq_none (by simp; omega)]; rfl
end
section
variable {w w' w1 w2 : World} {base : Nat} {X : EmX} {E : EmS} {rest rest' l1 l2 : List It} {x x' y : It} {n M k i j : Nat} {F : Fam} {S : Sets} {P : Nat → Bool}
/-- what is pending lies elsewhere now -/
theorem EmAt.setPv (h : EmAt w base X E rest) (v : Value) : EmAt (w.setCell ⟨X.fp, 12, none⟩ v) base { X with pv := v } E rest := by
 obtain ⟨cv, sv, zv, nv, Mc, J, L, lvs, h1, hI⟩ := h
 exact ⟨cv, sv, zv, nv, Mc, J, L, lvs, h1, hI.set_ (i := 3) rfl 12 v⟩
theorem EmAt.setRowR {g n c size : Nat} {e : TypeId} {xs : List Value} (h : EmAt w base X E rest) (hi : rest[i]? = some (.row (.slice (some ⟨g, 0, none⟩) n c) e size n xs)) (hj : j < n * size) (u : Value) : EmAt (w.setCell ⟨g, j, none⟩ u) base X E (rest.set i (.row (.slice (some ⟨g, 0, none⟩) n c) e size n (xs.set j u))) ∧ base ≤ g :=
 ⟨h.changeR hi (grown_setCell w ⟨g, j, none⟩ u) (own_put_at (h.idx hi) hj) (.inl rfl), ((h.idx hi).lt g rfl).1⟩
theorem perm_swap (A B C D R : List It) : (A ++ (B ++ (C ++ (D ++ R)))).Perm (C ++ ((D ++ (B ++ A)) ++ R)) := by
 have h1 : (B ++ (C ++ (D ++ R))).Perm (C ++ (D ++ (B ++ R))) := (List.perm_append_comm_assoc B C (D ++ R)).trans ((List.perm_append_comm_assoc B D R).append_left C)
 have h2 : (A ++ (C ++ (D ++ (B ++ R)))).Perm (C ++ (D ++ (B ++ (A ++ R)))) :=
  (List.perm_append_comm_assoc A C _).trans (((List.perm_append_comm_assoc A D _).trans ((List.perm_append_comm_assoc A B R).append_left D)).append_left C)
 have h3 := (h1.append_left A).trans h2
 simpa [List.append_assoc] using h3
theorem EmAt.make2 {g1 h1 g2 h2 : Nat} (h : EmAt w base X E (l1 ++ (famIts n (2 * j) F ++ l2))) (ok : FamOK n (2 * j) F (fun _ _ => false)) (hb1 : Below w.heap.size w w1) (hg1 : w.heap.size ≤ g1) (hh1 : w.heap.size ≤ h1) (hs1 : SetF w1 g1 h1 n (fun _ => false))
  (hb2 : Below w1.heap.size w1 w2) (hg2 : w1.heap.size ≤ g2) (hh2 : w1.heap.size ≤ h2) (hs2 : SetF w2 g2 h2 n (fun _ => false)) :
  ∃ F', (∀ k, k < 2 * j → F'.g k = F.g k) ∧ F'.g (2 * j) = g1 ∧ F'.g (2 * j + 1) = g2 ∧ EmAt w2 base X E (l1 ++ (famIts n (2 * (j + 1)) F' ++ l2)) ∧ FamOK n (2 * (j + 1)) F' (fun _ _ => false) := by
 obtain ⟨F1, e1, _, hE1, ok1⟩ := h.famOne hb1 hg1 hh1 hs1
 obtain ⟨F2, e2, _, hE2, ok2⟩ := hE1.famOne hb2 hg2 hh2 hs2
 refine ⟨⟨fun k => if k = 2 * j then F1.g 0 else if k = 2 * j + 1 then F2.g 0 else F.g k, fun k => if k = 2 * j then F1.h 0 else if k = 2 * j + 1 then F2.h 0 else F.h k, fun k => if k = 2 * j then F1.c 0 else if k = 2 * j + 1 then F2.c 0 else F.c k, fun k => if k = 2 * j then F1.cur 0 else if k = 2 * j + 1 then F2.cur 0 else F.cur k⟩, ?_, ?_, ?_, ?_, ?_⟩
 ·intro k hk
  show (if k = 2 * j then F1.g 0 else if k = 2 * j + 1 then F2.g 0 else F.g k) = _
  rw [if_neg (by omega), if_neg (by omega)]
 ·show (if 2 * j = 2 * j then F1.g 0 else _) = _
  rw [if_pos rfl, e1]
 ·show (if 2 * j + 1 = 2 * j then F1.g 0 else if 2 * j + 1 = 2 * j + 1 then F2.g 0 else _) = _
  rw [if_neg (by omega), if_pos rfl, e2]
 ·have hp := hE2.permR (perm_swap _ _ _ _ _)
  refine hp.permR (List.Perm.of_eq ?_)
  obtain ⟨F', hF'⟩ : ∃ F' : Fam, F' = ⟨fun k => if k = 2 * j then F1.g 0 else if k = 2 * j + 1 then F2.g 0 else F.g k, fun k => if k = 2 * j then F1.h 0 else if k = 2 * j + 1 then F2.h 0 else F.h k, fun k => if k = 2 * j then F1.c 0 else if k = 2 * j + 1 then F2.c 0 else F.c k, fun k => if k = 2 * j then F1.cur 0 else if k = 2 * j + 1 then F2.cur 0 else F.cur k⟩ := ⟨_, rfl⟩
  rw [← hF']
  have q0 : famIts n (2 * (j + 1)) F' = famIts n (2 * j) F' ++ ([famG n F' (2 * j), famH F' (2 * j)] ++ [famG n F' (2 * j + 1), famH F' (2 * j + 1)]) := by
   rw [show 2 * (j + 1) = 2 * j + 1 + 1 by omega, famIts_snoc (M := 2 * j + 1), famIts_snoc (M := 2 * j), List.append_assoc]
  have q1 : famIts n 1 F1 = [famG n F' (2 * j), famH F' (2 * j)] := by
   rw [hF']; unfold famG famH; simp only [if_pos]; rfl
  have q2 : famIts n 1 F2 = [famG n F' (2 * j + 1), famH F' (2 * j + 1)] := by
   rw [hF']; unfold famG famH; simp only [if_neg (show ¬ 2 * j + 1 = 2 * j by omega), if_pos]; rfl
  have q3 : famIts n (2 * j) F = famIts n (2 * j) F' := famIts_congr fun k hk => by
   rw [hF']
   simp [show k ≠ 2 * j by omega, show k ≠ 2 * j + 1 by omega]
  rw [q0, q1, q2, q3]
 ·refine ⟨ok1.1, fun k hk => ?_⟩
  by_cases k1 : k = 2 * j
  ·obtain ⟨a, b, c⟩ := ok1.2 0 (by omega)
   simp only [if_pos k1]
   exact ⟨a, b, c⟩
  ·by_cases k2 : k = 2 * j + 1
   ·obtain ⟨a, b, c⟩ := ok2.2 0 (by omega)
    simp only [if_neg k1, if_pos k2]
    exact ⟨a, b, c⟩
   ·obtain ⟨a, b, c⟩ := ok.2 k (by omega)
    simp only [if_neg k1, if_neg k2]
    exact ⟨a, b, c⟩
end
end Go.Proofs.YtnfjjliiajaijaaDoor
