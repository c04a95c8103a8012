/- Walk of the emitter's places behind calls. Conditions: the emitter, the graph's kinds and the sets of what lives lie in memory. Walk of the emitter's nodes, one after the other. Conditions: the emitter and the graph lie in memory, places are there. Walk of the emitter's nodes that call the runtime. Conditions: the emitter and the graph lie in memory, places are there. -/
import Derived.Test.YtnfjjliiajaijaaDoorPkAA
import Derived.Test.YtnfjjliiajaijaaDoorPkAJ
set_option linter.unusedVariables false
set_option linter.unusedSimpArgs false
set_option maxRecDepth 100000
set_option maxHeartbeats 10000000
namespace Go.Proofs.YtnfjjliiajaijaaDoor
open Go.RowKit
section
variable {w w' : World} {base : Nat} {X : EmX} {E : EmS} {rest rest' : List It}
theorem EmAt.permR (h : EmAt w base X E rest) (hp : rest.Perm rest') : EmAt w base X E rest' := by
 obtain ⟨cv, sv, zv, nv, Mc, J, L, lvs, h1, hI⟩ := h
 exact ⟨cv, sv, zv, nv, Mc, J, L, lvs, h1, hI.perm ((hp.append_left _).append_left _)⟩
theorem EmAt.pushFirst {v v' : Value} {e : TypeId} {size n n' : Nat} {xs xs' : List Value} (h : EmAt w base X E (.row v e size n xs :: rest)) (ho : w'.ownsRow base e size v' n' xs') (hg : w.grownBy w' v.ownBlock) (hat : v'.ownBlock = v.ownBlock ∨ ∀ b, v'.ownBlock = some b → w.heap.size ≤ b) : EmAt w' base X E (.row v' e size n' xs' :: rest) := by
 obtain ⟨cv, sv, zv, nv, Mc, J, L, lvs, h1, hI⟩ := h
 have e1 : (emItems X E cv sv zv nv Mc J L lvs).length + (liveRows E.sites lvs).length - (emItems X E cv sv zv nv Mc J L lvs).length - (liveRows E.sites lvs).length = 0 := by omega
 have hi : (emItems X E cv sv zv nv Mc J L lvs ++ (liveRows E.sites lvs ++ .row v e size n xs :: rest))[(emItems X E cv sv zv nv Mc J L lvs).length + (liveRows E.sites lvs).length]? = some (.row v e size n xs) := by
  rw [List.getElem?_append_right (by omega), List.getElem?_append_right (by omega), e1]; rfl
 have hI2 := hI.push hi ho hg hat
 refine ⟨cv, sv, zv, nv, Mc, J, L, lvs, h1, ?_⟩
 rw [List.set_append_right _ _ (by omega), List.set_append_right _ _ (by omega), e1] at hI2
 exact hI2
theorem EmAt.own {v : Value} {e : TypeId} {size n : Nat} {xs : List Value} (h : EmAt w base X E (.row v e size n xs :: rest)) : w.ownsRow base e size v n xs := h.first
theorem site_em {gb go n i : Nat} {S : Nat → Bool} {KD : Nat → Int} (h : EmAt w base X E rest) (hga : X.ga = ⟨gb, (go : Nat), none⟩)
  (hP : ∀ W E', EmAt W base X E' rest → ∃ pA N pc g h', X.pv = .slice (some pA) N pc ∧ i < N ∧ W.cell? (pA.add i) = some (.pointer (some ⟨g, 0, none⟩)) ∧ SetF W g h' n S)
  (hS : ∀ k, n ≤ k → S k = false) (hn : n ≤ 16 + X.ns)
  (hK : ∀ W, Below base w W → ∃ kv, W.cell? ⟨gb, ((go + 1 : Nat) : Nat), none⟩ = some kv ∧ ∀ k, k < n → ∃ kA kc, kv = .slice (some kA) n kc ∧ W.cell? (kA.add k) = some (.int .u8 (KD k)))
  (hT : ∀ W, Below base w W → TabX W) (hns : X.ns ≤ 1048560) (hi : i < 1048576) (hsz : E.sz + 2 ≤ 1099511627776) :
  Calls Tryd.prog 76 #[.pointer (some ⟨X.fp, 0, none⟩), .int .i64 (i : Nat)] w fun e w' => EmGot base X rest w (.tuple #[]) (E.site (liveL KD (listN n S))) e w' := by
 obtain ⟨iS, hiS, sz0, sz1, sz2⟩ := info_parts infoSite
 obtain ⟨iI, hiI, iz0, iz1, iz2⟩ := info_parts infoIntE
 obtain ⟨l, hl⟩ : ∃ l, listN n S = l := ⟨_, rfl⟩
 obtain ⟨R, hR⟩ : ∃ R, E.site (liveL KD l) = R := ⟨_, rfl⟩
 have hll : l.length ≤ n := by rw [← hl]; exact listN_len n S
 have hlm : ∀ p ∈ l, p < n := fun p hp => by rw [← hl] at hp; exact (listN_mem.1 hp).1
 rw [hl, hR]
 obtain ⟨f0, f1, _, f3, _, _, _, _, f12⟩ := h.fn
 obtain ⟨CA, cc, k0⟩ := h.code
 have hE1 := h.box 112 #[.int .i64 (E.code.length : Nat), .slice none 0 0]
 have hb1 := (Below.refl base w).alloc h.size (.cells #[.int .i64 (E.code.length : Nat), .slice none 0 0] 112)
 obtain ⟨T, hT'⟩ : ∃ T, T = w.heap.size := ⟨_, rfl⟩
 obtain ⟨w1, hw1⟩ : ∃ w1, w1 = w.alloc (.cells #[.int .i64 (E.code.length : Nat), .slice none 0 0] 112) := ⟨_, rfl⟩
 rw [← hw1, ← hT'] at hE1
 rw [← hw1] at hb1
 obtain ⟨pA, N, pc, g, h', hpv, hiN, hpc, hset⟩ := hP _ _ hE1.drop
 have f12' := hE1.fn.2.2.2.2.2.2.2.2
 rw [hpv] at f12'
 have hlist := listF_any hset hS (hT w1 hb1)
 rw [hl, show listS n S = l.map (fun i => ((i : Nat) : Int)) by unfold listS; rw [hl]] at hlist
 have hin : (i : Int) < N := by omega
 obtain ⟨H, HE1, Hb1, HT', Hw1, HP, HS, HK⟩ := hd8 h hE1 hb1 hT' hw1 hP hS hK
 obtain ⟨HT, Hset, Hlist, Hl, HR, Hlm, Hpv, Hga⟩ := hd8 hT hset hlist hl hR hlm hpv hga
 obtain ⟨Hf1, Hf3, Hf12⟩ := hd3 f1 f3 f12
 clear f12 f3 f1 hga hpv hlm hR hl hlist hset hT hK hS hP hw1 hT' hb1 hE1 h
 go_enter Tryd.func76, Tryd.ntmps76
 go_upto_region 1 with fail
 rw [← Hw1.out, ← HT'.out]
 go_wp2_with fail
 refine Hlist.out.mono ?_
 rintro e w2 ⟨LA, lc, rfl, hown, hb2⟩
 obtain ⟨m, hm⟩ : ∃ m, l.length = m := ⟨_, rfl⟩
 rw [hm] at hown hll ⊢
 have hE2 := HE1.out.extend (x := .row (.slice LA m lc) 3 1 m ((l.map (fun i => ((i : Nat) : Int))).map (Value.int .i64))) (only_of_below hb2 none) (It.At.lower (x := .row (.slice LA m lc) 3 1 m ((l.map (fun i => ((i : Nat) : Int))).map (Value.int .i64))) hown HE1.out.size) (fun b e => (hown.lt b e).1)
 have hE3 := hE2.extend (x := .row (.slice none 0 0) 3 1 0 []) (World.grownBy.refl _ _) (World.ownsRow_nil _ _ _ _) (fun b e => by cases e)
 have hb3 := Hb1.out.trans (hb2.mono HE1.out.size)
 obtain ⟨Hown, Hb2, HE2, HE3, Hb3, Hm⟩ := hd6 hown hb2 hE2 hE3 hb3 hm
 clear hm hb3 hE3 hE2 hb2 hown
 go_wp2_with fail
 clear f0 k0 f12' hpc
 go_loopg [25] m (fun gk iv wr => ∃ (j : Nat) (lv : Value), j + gk = m ∧ iv = .int .i64 j ∧ Hid (EmAt wr base X E (.row lv 3 1 (liveL KD (l.take j)).length ((liveL KD (l.take j)).map (Value.int .i64)) :: .row (.slice LA m lc) 3 1 m ((l.map (fun i => ((i : Nat) : Int))).map (Value.int .i64)) :: .blk T 112 #[.int .i64 (E.code.length : Nat), lv] :: rest)) ∧ Hid (Below base w wr))
 case atStart => exact ⟨0, .slice none 0 0, by omega, rfl, HE3, Hb3⟩
 case round =>
  obtain ⟨j, lv, hj, rfl, hEj, hbj⟩ := hrel
  have hbz := hEj.out.size
  obtain ⟨A, c, hlv, _⟩ := own_any hEj.out.own
  obtain ⟨nl, hnl⟩ : ∃ nl, (liveL KD (l.take j)).length = nl := ⟨_, rfl⟩
  have hEj2 := hEj.out
  rw [hnl] at hlv hEj2
  have hpT : ∀ (a b c : It) (r : List It), (a :: b :: c :: r).Perm (c :: a :: b :: r) := fun a b c r => List.perm_middle (l₁ := [a, b])
  by_cases hjm : j < m
  ·have hjl : j < l.length := by rw [Hm.out]; exact hjm
   obtain ⟨p, hp⟩ : ∃ p, l[j]? = some p := ⟨_, List.getElem?_eq_getElem hjl⟩
   have hpn := Hlm.out p (List.mem_of_getElem? hp)
   obtain ⟨ad, u, hA, _, hu, hcu⟩ := (Reads.of_own hEj2.drop.own).at_ hjm
   subst hA
   have hu2 : u = .int .i64 (p : Nat) := by
    rw [List.getElem?_map, List.getElem?_map, hp] at hu
    injection hu with hu
    exact hu.symm
   subst hu2
   have htk : l.take (j + 1) = l.take j ++ [p] := by rw [List.take_add_one, hp]; rfl
   have hsn := liveL_snoc KD (l.take j) p
   rw [← htk] at hsn
   have hji : (j : Int) < m := by omega
   by_cases h16 : p < 16
   ·rw [if_neg (by omega), List.append_nil] at hsn
    have h16i : ¬ (16 : Int) ≤ p := by omega
    have hEq := hEj.out
    rw [← hsn] at hEq
    obtain ⟨Hp, Hu, Htk, Hsn, HEj2, HEq, Hlv, Hnl⟩ := hd8 hp hu htk hsn hEj2 hEq hlv hnl
    clear hnl hlv hEq hEj2 hsn htk hu hp
    go_wp2_with fail
    go_roundg (gk - 1)
    case measure => omega
    case rel => exact ⟨j + 1, lv, by omega, by simp, HEq, hbj⟩
   ·have h16i : (16 : Int) ≤ p := by omega
    obtain ⟨f0, f1, _, f3, _⟩ := hEj2.fn
    rw [Hga.out] at f1
    obtain ⟨kv, hkv, hkk⟩ := HK.out wr hbj.out
    obtain ⟨kA, kc, rfl, hkp⟩ := hkk p hpn
    have hpni : (p : Int) < n := by omega
    by_cases hk1 : KD p = 1
    ·rw [if_pos ⟨by omega, hk1⟩] at hsn
     have hkb : (KD p == 1) = true := by rw [hk1]; rfl
     obtain ⟨sd, sc, hsl, hsc⟩ := hEj2.slot (k := p - 16) (by omega)
     rw [hsl] at f3
     have hk0 : (p : Int) - 16 = ((p - 16 : Nat) : Int) := by omega
     obtain ⟨k, hk⟩ : ∃ k, p - 16 = k := ⟨_, rfl⟩
     rw [hk] at hsc hk0
     have hkX : (k : Int) < X.ns := by omega
     have hT1 := (hEj2.permR (hpT _ _ _ _)).blk
     have kt1 := Blk.cell hT1 1
     simp only [List.getElem?_toArray, List.getElem?_cons_zero, List.getElem?_cons_succ] at kt1
     subst hlv
     have hso : slotOf p = 8 * (k : Int) := by unfold slotOf; omega
     rw [hso] at hsn
     have hnl2 : (liveL KD (l.take (j + 1))).length = nl + 1 := by rw [hsn, List.length_append, hnl]; rfl
     have hnlj : nl ≤ j := by
      rw [← hnl]; unfold liveL; rw [List.length_map]
      exact Nat.le_trans (List.length_filter_le _ _) (by rw [List.length_take]; omega)
     have hfpl := hEj2.fpb.2.1
     have hTl := hT1.lt
     have hsdl : sd.block < wr.heap.size := World.block_lt_of_cell? wr (sd.add k) hsc |> fun hh => by rw [block_of_add] at hh; exact hh
     have hkw : IntKind.i64.wrap (k : Int) = k := by rw [IntKind.wrap_i64]; omega
     obtain ⟨Hp, Hu, Htk, Hsn, HEj2, Hnl, Hkk, HT1⟩ := hd8 hp hu htk hsn hEj2 hnl hkk hT1
     obtain ⟨Hsl, Hk, Hso, Hnl2⟩ := hd4 hsl hk hso hnl2
     clear hnl2 hso hk hsl hT1 hkk hnl hEj2 hsn htk hu hp
     go_upto_region 5 with fail
     refine wp_region_late (S := fun W => W.cell? ⟨X.fp, 3, none⟩ = some (.slice (some sd) X.ns sc) ∧ W.cell? (sd.add k) = some (.int .i64 (8 * (k : Int))) ∧ W.cell? ⟨T, 1, none⟩ = some (.slice A nl c)) #[false, false, false, false, false, false, false, false, false, false, false, false, false, false, true] (by kernel_rfl) ⟨f3, hsc, kt1⟩ (fun hHeld => ?_)
     refine wpAnyL_tk 0 ?_
     refine wpAnyL_tk 1 ?_
     refine wpAnyL_tk 2 ?_
     refine wpAnyL_tk 3 ?_
     refine wpAnyL_tk 4 ?_
     refine wpAnyL_tk 5 ?_
     refine wpAnyL_tk 6 ?_
     refine wpAnyL_tk 7 ?_
     refine wpAnyL_tk 8 ?_
     refine wpAnyL_tk 9 ?_
     refine wpAnyL_tk 10 ?_
     refine wpAnyL_ready (rs := [11]) (by kernel_rfl) (by simp) ?_
     refine AllReadyL.cons rfl (fun K hK => ?_) AllReadyL.nil
     go_simp
     refine hK.out _ _ ⟨(World.cell?_alloc_lt _ _ ⟨X.fp, 3, none⟩ hfpl).trans f3, (World.cell?_alloc_lt _ _ (sd.add k) (by rw [block_of_add]; exact hsdl)).trans hsc, (World.cell?_alloc_lt _ _ ⟨T, 1, none⟩ hTl).trans kt1⟩ (fun hHeld2 => ?_)
     clear hK K hHeld
     try simp only [Act.put, List.getElem_toArray, List.getElem_cons_zero, List.getElem_cons_succ, List.setIfInBounds_toArray, List.set_cons_zero, List.set_cons_succ]
     refine wpAnyL_ready (rs := [12]) (by kernel_rfl) (by simp) ?_
     refine AllReadyL.cons rfl (fun K hK => ?_) AllReadyL.nil
     refine step_append_any _ rfl (.tmp 45) (.tmp 55) _ rfl base 3 iI _ 1 8 Tryd.underlying40 hiI iz0 iz1 iz2 rfl (by omega) (.slice A nl c) nl ((liveL KD (l.take j)).map (Value.int .i64)) rfl ((HEj2.out.drew.alloc _).own) (wr.heap.size + 1) (some ⟨wr.heap.size, 0, none⟩) 1 1 [.int .i64 (8 * (k : Int))] rfl (Reads.new1 _ _ _) ?c1 ?c2 ?c3 ?c4 ?_
     case c1 => intro u hu; simp at hu; rw [hu]; rfl
     case c2 => simp only [maxLen]; omega
     case c3 => omega
     case c4 => simp; omega
     intro v4 w4 hown4 hg4 hat4
     obtain ⟨A4, c4, rfl, _⟩ := own_any hown4
     have hEp := (HEj2.out.drew.alloc (.cells #[.int .i64 (8 * (k : Int))] 3)).pushFirst hown4 hg4 (by
      rcases hat4 with e | e
      ·exact .inl e
      ·exact .inr fun b hb => by rw [e] at hb; injection hb with hb; simp at hb; simp; omega)
     have hb4 := (hbj.out.drew.alloc HEj2.out.drew.size (.cells #[.int .i64 (8 * (k : Int))] 3)).grown hg4 (by simp; omega) (fun b e => ((HEj2.out.drew.alloc (.cells #[.int .i64 (8 * (k : Int))] 3)).own.lt b e).1)
     have hT4 := (hEp.permR (hpT _ _ _ _)).blk
     have kx1 := Blk.cell hT4 1
     simp only [List.getElem?_toArray, List.getElem?_cons_zero, List.getElem?_cons_succ] at kx1
     have fx1 := Blk.frozen hT4 1
     obtain ⟨hEs, hTb⟩ := (hEp.permR (hpT _ _ _ _)).setFirst 1 (.slice A4 (nl + 1) c4)
     simp only [List.setIfInBounds_toArray, List.set_cons_succ, List.set_cons_zero] at hEs
     have hEn := hEs.permR (hpT _ _ _ _).symm
     rw [show (liveL KD (l.take j)).map (Value.int .i64) ++ [Value.int .i64 (8 * (k : Int))] = (liveL KD (l.take (j + 1))).map (Value.int .i64) by rw [Hsn.out, List.map_append]; rfl, ← Hnl2.out] at hEn
     have hbn := hb4.setCell (p := ⟨T, 1, none⟩) hTb (.slice A4 (nl + 1) c4)
     obtain ⟨_, _, _, f3', _⟩ := hEp.fn
     rw [Hsl.out] at f3'
     obtain ⟨sd', sc', hsl', hsc'⟩ := hEp.slot (k := k) (by omega)
     rw [Hsl.out] at hsl'
     injection hsl' with h1 _ h2
     injection h1 with h1
     subst h1
     subst h2
     rw [Hnl2.out] at hEn
     refine hK.out _ _ ⟨f3', hsc', kx1⟩ (fun hHeld3 => ?_)
     clear hK K hHeld2
     obtain ⟨HEp, Hb4, HT4, HEs, HEn, Hbn, Hown4, Hg4⟩ := hd8 hEp hb4 hT4 hEs hEn hbn hown4 hg4
     have Hat4 := Lib.hid hat4
     clear hat4 hg4 hown4 hbn hEn hEs hT4 hb4 hEp
     try simp only [Act.put, List.getElem_toArray, List.getElem_cons_zero, List.getElem_cons_succ, List.setIfInBounds_toArray, List.set_cons_zero, List.set_cons_succ]
     refine wpAnyL_tk 13 ?_
     refine wpAnyL_ready (rs := [14]) (by kernel_rfl) (by simp) ?_
     refine AllReadyL.last rfl (by kernel_rfl) (fun K hK => ?_) AllReadyL.nil
     go_simp
     refine hK.out _ _ ?_
     clear hK K
     try simp only [Act.put, List.getElem_toArray, List.getElem_cons_zero, List.getElem_cons_succ, List.setIfInBounds_toArray, List.set_cons_zero, List.set_cons_succ]
     refine wpAnyL_done (by kernel_rfl) ?_ _
     clear f3' hsc' kx1 fx1 f0 f1 f3 hsc kt1 hHeld3 hkv hcu hkp
     go_wp2_with fail
     go_roundg (gk - 1)
     case measure => omega
     case rel => exact ⟨j + 1, .slice A4 (nl + 1) c4, by omega, by simp, by rw [Hnl2.out]; exact HEn, Lib.hid Hbn.out⟩
    ·rw [if_neg (fun hh => hk1 hh.2), List.append_nil] at hsn
     have hkb : (KD p == 1) = false := by simpa using hk1
     have hEq := hEj.out
     rw [← hsn] at hEq
     obtain ⟨Hp, Hu, Htk, Hsn, HEj2, HEq, Hlv, Hnl⟩ := hd8 hp hu htk hsn hEj2 hEq hlv hnl
     obtain ⟨Hkk, Hf3⟩ := hd2 hkk f3
     clear f3 hkk hnl hlv hEq hEj2 hsn htk hu hp
     go_wp2_with fail
     go_roundg (gk - 1)
     case measure => omega
     case rel => exact ⟨j + 1, lv, by omega, by simp, HEq, hbj⟩
  ·obtain rfl : j = m := by omega
   rw [List.take_of_length_le (by rw [Hm.out]; exact Nat.le_refl _)] at hEj2 hnl
   have hji : ¬ (j : Int) < j := by omega
   subst hlv
   have hT1 := (hEj2.permR (hpT _ _ _ _)).blk
   have kt0 := Blk.cell hT1 0
   have kt1 := Blk.cell hT1 1
   simp only [List.getElem?_toArray, List.getElem?_cons_zero, List.getElem?_cons_succ] at kt0 kt1
   have hEf := hEj2.drew
   rw [← hnl] at hEf
   obtain ⟨v, xs, e4, vo, _, vk⟩ := hEf.site_
   obtain ⟨VA, vc, rfl, _⟩ := own_any vo
   replace e4 : wr.cell? ⟨X.ep, 4, none⟩ = some (.slice VA E.sites.length vc) := e4
   obtain ⟨f0, _⟩ := hEj2.fn
   have hfpl := hEj2.fpb.2.1
   have hepl := hEj2.fpb.2.2.2
   have hTl := hT1.lt
   have hsE : E.sites.length ≤ E.sz := by unfold EmS.sz; omega
   obtain ⟨HEj2, HEf, Hvo, Hvk, Hnl, HT1⟩ := hd6 hEj2 hEf vo vk hnl hT1
   clear hT1 hnl vk vo hEf hEj2
   go_upto_region 7 with fail
   refine wp_region_late (S := fun W => W.cell? ⟨X.fp, 0, none⟩ = some (.pointer (some ⟨X.ep, 0, none⟩)) ∧ W.cell? ⟨X.ep, 4, none⟩ = some (.slice VA E.sites.length vc) ∧ W.cell? ⟨T, 0, none⟩ = some (.int .i64 (E.code.length : Nat)) ∧ W.cell? ⟨T, 1, none⟩ = some (.slice A nl c)) #[false, false, false, false, false, false, false, false, false, false, false, false, false, false, false, false, false, false, true] (by kernel_rfl) ⟨f0, e4, kt0, kt1⟩ (fun hHeld => ?_)
   refine wpAnyL_tk 0 ?_
   refine wpAnyL_tk 1 ?_
   refine wpAnyL_tk 2 ?_
   refine wpAnyL_tk 3 ?_
   refine wpAnyL_tk 4 ?_
   refine wpAnyL_tk 5 ?_
   refine wpAnyL_tk 6 ?_
   refine wpAnyL_tk 7 ?_
   refine wpAnyL_tk 8 ?_
   refine wpAnyL_tk 9 ?_
   refine wpAnyL_tk 10 ?_
   refine wpAnyL_tk 11 ?_
   refine wpAnyL_tk 12 ?_
   refine wpAnyL_ready (rs := [13]) (by kernel_rfl) (by simp) ?_
   refine AllReadyL.cons rfl (fun K hK => ?_) AllReadyL.nil
   go_simp
   refine hK.out _ _ ⟨(World.cell?_alloc_lt _ _ ⟨X.fp, 0, none⟩ hfpl).trans f0, (World.cell?_alloc_lt _ _ ⟨X.ep, 4, none⟩ hepl).trans e4, (World.cell?_alloc_lt _ _ ⟨T, 0, none⟩ hTl).trans kt0, (World.cell?_alloc_lt _ _ ⟨T, 1, none⟩ hTl).trans kt1⟩ (fun hHeld2 => ?_)
   clear hK K hHeld
   try simp only [Act.put, List.getElem_toArray, List.getElem_cons_zero, List.getElem_cons_succ, List.setIfInBounds_toArray, List.set_cons_zero, List.set_cons_succ]
   refine wpAnyL_ready (rs := [14]) (by kernel_rfl) (by simp) ?_
   refine AllReadyL.cons rfl (fun K hK => ?_) AllReadyL.nil
   refine step_append_any _ rfl (.tmp 70) (.tmp 72) _ rfl base 112 iS _ 2 32 Tryd.underlying29 hiS sz0 sz1 sz2 rfl (by omega) (.slice VA E.sites.length vc) E.sites.length xs rfl (Hvo.out.alloc _) (wr.heap.size + 1) (some ⟨wr.heap.size, 0, none⟩) 1 1 [.int .i64 (E.code.length : Nat), .slice A nl c] rfl (Reads.newS _ rfl _ _ _ _ _ rfl rfl) ?c1 ?c2 ?c3 ?c4 ?_
   case c1 => intro u hu; simp at hu; rcases hu with rfl | rfl <;> rfl
   case c2 => simp only [maxLen]; omega
   case c3 => omega
   case c4 => simp; omega
   intro v4 w4 hown4 hg4 hat4
   obtain ⟨A4, c4, rfl, _⟩ := own_any hown4
   have hg4' := (World.grownBy_alloc wr.drew (.cells #[.int .i64 (E.code.length : Nat), .slice A nl c] 112) _).trans hg4
   obtain ⟨zc', zf, zb, zn⟩ := Hvk.out w4 hg4'
   have hown5 := hown4
   rw [← Hnl.out] at hown5
   obtain ⟨hE4, hb4⟩ := zn A4 c4 hown5 (by
    rcases hat4 with e | e
    ·exact .inl e
    ·exact .inr fun b hb => by rw [e] at hb; injection hb with hb; simp at hb; simp; omega)
   have y0 := (zc' X.fp (.inl rfl) 0).trans f0
   have ye := (zc' X.ep (.inr rfl) 4).trans e4
   have hT5 := zb T _ _ (List.mem_cons_of_mem _ List.mem_cons_self)
   have ku0 := Blk.cell hT5 0
   have ku1 := Blk.cell hT5 1
   simp only [List.getElem?_toArray, List.getElem?_cons_zero, List.getElem?_cons_succ] at ku0 ku1
   rw [Hnl.out] at ku1
   have hfin := (hbj.out.drew).trans hb4
   have hE9 := hE4.drop.drop
   rw [HR.out] at hE9
   refine hK.out _ _ ⟨y0, ye, ku0, ku1⟩ (fun hHeld3 => ?_)
   clear hK K hHeld2
   obtain ⟨HE4, Hb4, HT5, Hfin, HE9, Hown4, Hown5, Hg4⟩ := hd8 hE4 hb4 hT5 hfin hE9 hown4 hown5 hg4
   obtain ⟨Hg4', Hat4, Hzc', Hzb, Hzn⟩ := hd5 hg4' hat4 zc' zb zn
   clear zn zb zc' hat4 hg4' hg4 hown5 hown4 hE9 hfin hT5 hb4 hE4
   try simp only [Act.put, List.getElem_toArray, List.getElem_cons_zero, List.getElem_cons_succ, List.setIfInBounds_toArray, List.set_cons_zero, List.set_cons_succ]
   refine wpAnyL_tk 15 ?_
   refine wpAnyL_tk 16 ?_
   refine wpAnyL_tk 17 ?_
   refine wpAnyL_ready (rs := [18]) (by kernel_rfl) (by simp) ?_
   refine AllReadyL.last rfl (by kernel_rfl) (fun K hK => ?_) AllReadyL.nil
   go_simp
   refine hK.out _ _ ?_
   clear hK K
   try simp only [Act.put, List.getElem_toArray, List.getElem_cons_zero, List.getElem_cons_succ, List.setIfInBounds_toArray, List.set_cons_zero, List.set_cons_succ]
   refine wpAnyL_done (by kernel_rfl) ?_ _
   clear y0 ye zf ku0 ku1 f0 e4 kt0 kt1 hHeld3
   go_wp2_with fail
   go_end0
   exact ⟨rfl, HE9.out, Hfin.out⟩
end
end Go.Proofs.YtnfjjliiajaijaaDoor
namespace Go.Proofs.YtnfjjliiajaijaaDoor
open Go.RowKit
/-- a graph behind a pointer -/
structure GrF (w : World) (base gb go : Nat) (g : GraphD) : Prop where
 lt : gb < base
 all : ∃ pv kv iv nv, (∀ j v, (gcells g pv kv iv nv)[j]? = some v → w.cell? ⟨gb, go + j, none⟩ = some v) ∧ NumsAt .i64 w base pv g.params ∧ NumsAt .u8 w base kv g.kinds ∧ NumsAt .i64 w base iv g.init ∧ RowsAt 12 NodeAt w base nv g.nodes
theorem GrF.below {w w' : World} {base gb go : Nat} {g : GraphD} (h : GrF w base gb go g) (hb : Below base w w') : GrF w' base gb go g := by
 obtain ⟨h0, pv, kv, iv, nv, h1, h2, h3, h4, h5⟩ := h
 exact ⟨h0, pv, kv, iv, nv, fun j v hv => (hb.cell h0).trans (h1 j v hv), h2.keep fun _ hp => hb.cell hp, h3.keep fun _ hp => hb.cell hp, h4.keep fun _ hp => hb.cell hp, h5.keep (fun _ hp => hb.cell hp) fun _ _ h => h.keep fun _ hp => hb.cell hp⟩
section
variable {w : World} {base : Nat} {X : EmX} {E : EmS} {rest : List It}
theorem node_move {gb go i : Nat} {g : GraphD} {x : NodeD} (h : EmAt w base X E rest) (hga : X.ga = ⟨gb, (go : Nat), none⟩) (hG : GrF w base gb go g) (hx : g.nodes[i]? = some x) (hop : x.op = 2) (d a : Nat) (hd : x.d = (d : Int)) (ha : x.a = (a : Int)) (hdn : d < 16 + X.ns) (han : a < 16 + X.ns)
  (hns : X.ns ≤ 1048560) (hi : i < 1048576) (hsz : E.sz + 9 ≤ 1099511627776) :
  Calls Tryd.prog 40 #[.pointer (some ⟨X.fp, 0, none⟩), .int .i64 (i : Nat)] w fun e w' => EmGot base X rest w (.tuple #[]) ((E.mark i).move d a) e w' := by
 obtain ⟨R, hR⟩ : ∃ R, (E.mark i).move d a = R := ⟨_, rfl⟩
 rw [hR]
 obtain ⟨f0, f1, _⟩ := h.fn
 rw [hga] at f1
 obtain ⟨_, pv, kv, iv, nv, hgc, _, _, _, hN⟩ := hG
 have c6 := hgc 6 nv rfl
 obtain ⟨NA, nc, rfl, _, _⟩ := hN.slice
 obtain ⟨nad, cs, hna, _, _, _, ⟨av, hcs, hav⟩, z0, nj⟩ := RowsAt.at_ hN hx
 subst hna hcs
 obtain ⟨AA, aac, hava, _, _, _⟩ := hav.slice
 subst hava
 have n0 : w.cell? (nad.add (i * 12)) = some (.int .u8 x.op) := z0 _ rfl
 have n1 := nj 1 _ (by omega) rfl
 have n2 := nj 2 _ (by omega) rfl
 have n3 := nj 3 _ (by omega) rfl
 have n4 := nj 4 _ (by omega) rfl
 have n5 := nj 5 _ (by omega) rfl
 have n6 := nj 6 _ (by omega) rfl
 have n7 := nj 7 _ (by omega) rfl
 have n8 := nj 8 _ (by omega) rfl
 have n9 := nj 9 _ (by omega) rfl
 have n10 := nj 10 _ (by omega) rfl
 have n11 := nj 11 _ (by omega) rfl
 clear nj z0
 obtain ⟨nn, hnn⟩ : ∃ nn, g.nodes.length = nn := ⟨_, rfl⟩
 have hin : (i : Int) < nn := by
  have := (List.getElem?_eq_some_iff.1 hx).1
  omega
 rw [hnn] at c6
 have hbx := h.box 55 (ncells x (.slice AA x.args.length aac)).toArray
 have hb := (Below.refl base w).alloc h.size (.cells (ncells x (.slice AA x.args.length aac)).toArray 55)
 obtain ⟨N, hNN⟩ : ∃ N, N = w.heap.size := ⟨_, rfl⟩
 obtain ⟨w1, hw1⟩ : ∃ w1, w1 = w.alloc (.cells (ncells x (.slice AA x.args.length aac)).toArray 55) := ⟨_, rfl⟩
 rw [← hw1, ← hNN] at hbx
 rw [← hw1] at hb
 have hw1' : w.alloc (.cells #[.int .u8 x.op, .int .u8 x.byo, .int .i64 x.d, .int .i64 x.e, .int .i64 x.a, .int .i64 x.b, .int .i64 x.f, .int .i64 x.cell, .int .u64 x.imm, .slice AA x.args.length aac, .int .i64 x.next, .int .i64 x.els] 55) = w1 := hw1.symm
 have hmk := mark_em hbx i (by omega) (by omega)
 obtain ⟨H, Hga, Hgc, HN, Hx, Hav, Hnn, Hbx⟩ := hd8 h hga hgc hN hx hav hnn hbx
 obtain ⟨Hb, HNN, Hw1, HW1E, Hmk, HR, Hop, Hd⟩ := hd8 hb hNN hw1 hw1' hmk hR hop hd
 have Ha := Lib.hid ha
 clear ha hd hop hR hmk hw1' hw1 hNN hb hbx hnn hav hx hN hgc hga h
 go_enter Tryd.func40, Tryd.ntmps40
 go_upto_region 1 with fail
 rw [HW1E.out, ← HNN.out]
 clear n0 n1 n2 n3 n4 n5 n6 n7 n8 n9 n10 n11 c6 f0 f1
 go_wp2_with fail
 refine Hmk.out.mono ?_
 rintro e w2 ⟨rfl, hE2, hb12⟩
 have hb2 := Hb.out.trans hb12
 have hB2 := hE2.blk
 have m0 := node_cell hB2 rfl 0 (u := .int .u8 2) (by show some (Value.int .u8 x.op) = _; rw [Hop.out])
 have hrange : w2.rangeAt N 0 (ncells x (.slice AA x.args.length aac)) := fun j v hv => by
  rw [hB2.cell (0 + j), Nat.zero_add, List.getElem?_toArray]
  exact hv
 have hmv := move_em hE2 x (.slice AA x.args.length aac) d a Hd.out Ha.out hdn han (by omega) (by rw [sz_mark]; omega)
 obtain ⟨HE2, Hb12, Hb2, HB2, Hrange, Hmv⟩ := hd6 hE2 hb12 hb2 hB2 hrange hmv
 clear hmv hrange hB2 hb2 hb12 hE2
 go_wp2_with (refine wpList_load_mid rfl 55 _ rfl N 0 rfl (ncells x (.slice AA x.args.length aac)) _ Hrange.out Tryd.underlying55 rfl (by kernel_rfl) ?_)
 refine Hmv.out.mono ?_
 rintro e w3 ⟨rfl, hE3, hb23⟩
 have hfin := Hb2.out.trans hb23
 have hE4 := hE3.drop
 rw [HR.out] at hE4
 obtain ⟨HE3, Hb23, Hfin, HE4⟩ := hd4 hE3 hb23 hfin hE4
 clear hE4 hfin hb23 hE3
 go_wp2_with fail
 go_end0
 exact ⟨rfl, HE4.out, Hfin.out⟩
theorem node_bin {gb go i : Nat} {g : GraphD} {x : NodeD} (h : EmAt w base X E rest) (hga : X.ga = ⟨gb, (go : Nat), none⟩) (hG : GrF w base gb go g) (hx : g.nodes[i]? = some x) (hop : x.op = 3) (y d a b : Nat) (hy : x.byo = (y : Int)) (hy1 : 7 ≤ y) (hy2 : y ≤ 20) (hd : x.d = (d : Int)) (ha : x.a = (a : Int)) (hbb : x.b = (b : Int)) (hdn : d < 16 + X.ns) (han : a < 16 + X.ns) (hbn : b < 16 + X.ns)
  (hns : X.ns ≤ 1048560) (hi : i < 1048576) (hsz : E.sz + 9 ≤ 1099511627776) :
  Calls Tryd.prog 40 #[.pointer (some ⟨X.fp, 0, none⟩), .int .i64 (i : Nat)] w fun e w' => EmGot base X rest w (.tuple #[]) ((E.mark i).reckon y d a b) e w' := by
 obtain ⟨R, hR⟩ : ∃ R, (E.mark i).reckon y d a b = R := ⟨_, rfl⟩
 rw [hR]
 obtain ⟨f0, f1, _⟩ := h.fn
 rw [hga] at f1
 obtain ⟨_, pv, kv, iv, nv, hgc, _, _, _, hN⟩ := hG
 have c6 := hgc 6 nv rfl
 obtain ⟨NA, nc, rfl, _, _⟩ := hN.slice
 obtain ⟨nad, cs, hna, _, _, _, ⟨av, hcs, hav⟩, z0, nj⟩ := RowsAt.at_ hN hx
 subst hna hcs
 obtain ⟨AA, aac, hava, _, _, _⟩ := hav.slice
 subst hava
 have n0 : w.cell? (nad.add (i * 12)) = some (.int .u8 x.op) := z0 _ rfl
 have n1 := nj 1 _ (by omega) rfl
 have n2 := nj 2 _ (by omega) rfl
 have n3 := nj 3 _ (by omega) rfl
 have n4 := nj 4 _ (by omega) rfl
 have n5 := nj 5 _ (by omega) rfl
 have n6 := nj 6 _ (by omega) rfl
 have n7 := nj 7 _ (by omega) rfl
 have n8 := nj 8 _ (by omega) rfl
 have n9 := nj 9 _ (by omega) rfl
 have n10 := nj 10 _ (by omega) rfl
 have n11 := nj 11 _ (by omega) rfl
 clear nj z0
 obtain ⟨nn, hnn⟩ : ∃ nn, g.nodes.length = nn := ⟨_, rfl⟩
 have hin : (i : Int) < nn := by
  have := (List.getElem?_eq_some_iff.1 hx).1
  omega
 rw [hnn] at c6
 have hbx := h.box 55 (ncells x (.slice AA x.args.length aac)).toArray
 have hb := (Below.refl base w).alloc h.size (.cells (ncells x (.slice AA x.args.length aac)).toArray 55)
 obtain ⟨N, hNN⟩ : ∃ N, N = w.heap.size := ⟨_, rfl⟩
 obtain ⟨w1, hw1⟩ : ∃ w1, w1 = w.alloc (.cells (ncells x (.slice AA x.args.length aac)).toArray 55) := ⟨_, rfl⟩
 rw [← hw1, ← hNN] at hbx
 rw [← hw1] at hb
 have hw1' : w.alloc (.cells #[.int .u8 x.op, .int .u8 x.byo, .int .i64 x.d, .int .i64 x.e, .int .i64 x.a, .int .i64 x.b, .int .i64 x.f, .int .i64 x.cell, .int .u64 x.imm, .slice AA x.args.length aac, .int .i64 x.next, .int .i64 x.els] 55) = w1 := hw1.symm
 have hmk := mark_em hbx i (by omega) (by omega)
 obtain ⟨H, Hga, Hgc, HN, Hx, Hav, Hnn, Hbx⟩ := hd8 h hga hgc hN hx hav hnn hbx
 obtain ⟨Hb, HNN, Hw1, HW1E, Hmk, HR, Hop, Hd⟩ := hd8 hb hNN hw1 hw1' hmk hR hop hd
 obtain ⟨Ha, Hbb, Hy⟩ := hd3 ha hbb hy
 clear hy hbb ha hd hop hR hmk hw1' hw1 hNN hb hbx hnn hav hx hN hgc hga h
 go_enter Tryd.func40, Tryd.ntmps40
 go_upto_region 1 with fail
 rw [HW1E.out, ← HNN.out]
 clear n0 n1 n2 n3 n4 n5 n6 n7 n8 n9 n10 n11 c6 f0 f1
 go_wp2_with fail
 refine Hmk.out.mono ?_
 rintro e w2 ⟨rfl, hE2, hb12⟩
 have hb2 := Hb.out.trans hb12
 have hB2 := hE2.blk
 have m0 := node_cell hB2 rfl 0 (u := .int .u8 3) (by show some (Value.int .u8 x.op) = _; rw [Hop.out])
 have hrange : w2.rangeAt N 0 (ncells x (.slice AA x.args.length aac)) := fun j v hv => by
  rw [hB2.cell (0 + j), Nat.zero_add, List.getElem?_toArray]
  exact hv
 have hmv := reckon_em hE2 x (.slice AA x.args.length aac) y d a b Hy.out hy1 hy2 Hd.out Ha.out Hbb.out hdn han hbn (by omega) (by rw [sz_mark]; omega)
 obtain ⟨HE2, Hb12, Hb2, HB2, Hrange, Hmv⟩ := hd6 hE2 hb12 hb2 hB2 hrange hmv
 clear hmv hrange hB2 hb2 hb12 hE2
 go_wp2_with (refine wpList_load_mid rfl 55 _ rfl N 0 rfl (ncells x (.slice AA x.args.length aac)) _ Hrange.out Tryd.underlying55 rfl (by kernel_rfl) ?_)
 refine Hmv.out.mono ?_
 rintro e w3 ⟨rfl, hE3, hb23⟩
 have hfin := Hb2.out.trans hb23
 have hE4 := hE3.drop
 rw [HR.out] at hE4
 obtain ⟨HE3, Hb23, Hfin, HE4⟩ := hd4 hE3 hb23 hfin hE4
 clear hE4 hfin hb23 hE3
 go_wp2_with fail
 go_end0
 exact ⟨rfl, HE4.out, Hfin.out⟩
theorem node_load {gb go i : Nat} {g : GraphD} {x : NodeD} (h : EmAt w base X E rest) (hga : X.ga = ⟨gb, (go : Nat), none⟩) (hG : GrF w base gb go g) (hx : g.nodes[i]? = some x) (hop : x.op = 7) (d a : Nat) (hd : x.d = (d : Int)) (ha : x.a = (a : Int)) (hdn : d < 16 + X.ns) (han : a < 16 + X.ns)
  (hns : X.ns ≤ 1048560) (hi : i < 1048576) (hsz : E.sz + 9 ≤ 1099511627776) :
  Calls Tryd.prog 40 #[.pointer (some ⟨X.fp, 0, none⟩), .int .i64 (i : Nat)] w fun e w' => EmGot base X rest w (.tuple #[]) ((E.mark i).memory 7 d a 0) e w' := by
 obtain ⟨R, hR⟩ : ∃ R, (E.mark i).memory 7 d a 0 = R := ⟨_, rfl⟩
 rw [hR]
 obtain ⟨f0, f1, _⟩ := h.fn
 rw [hga] at f1
 obtain ⟨_, pv, kv, iv, nv, hgc, _, _, _, hN⟩ := hG
 have c6 := hgc 6 nv rfl
 obtain ⟨NA, nc, rfl, _, _⟩ := hN.slice
 obtain ⟨nad, cs, hna, _, _, _, ⟨av, hcs, hav⟩, z0, nj⟩ := RowsAt.at_ hN hx
 subst hna hcs
 obtain ⟨AA, aac, hava, _, _, _⟩ := hav.slice
 subst hava
 have n0 : w.cell? (nad.add (i * 12)) = some (.int .u8 x.op) := z0 _ rfl
 have n1 := nj 1 _ (by omega) rfl
 have n2 := nj 2 _ (by omega) rfl
 have n3 := nj 3 _ (by omega) rfl
 have n4 := nj 4 _ (by omega) rfl
 have n5 := nj 5 _ (by omega) rfl
 have n6 := nj 6 _ (by omega) rfl
 have n7 := nj 7 _ (by omega) rfl
 have n8 := nj 8 _ (by omega) rfl
 have n9 := nj 9 _ (by omega) rfl
 have n10 := nj 10 _ (by omega) rfl
 have n11 := nj 11 _ (by omega) rfl
 clear nj z0
 obtain ⟨nn, hnn⟩ : ∃ nn, g.nodes.length = nn := ⟨_, rfl⟩
 have hin : (i : Int) < nn := by
  have := (List.getElem?_eq_some_iff.1 hx).1
  omega
 rw [hnn] at c6
 have hbx := h.box 55 (ncells x (.slice AA x.args.length aac)).toArray
 have hb := (Below.refl base w).alloc h.size (.cells (ncells x (.slice AA x.args.length aac)).toArray 55)
 obtain ⟨N, hNN⟩ : ∃ N, N = w.heap.size := ⟨_, rfl⟩
 obtain ⟨w1, hw1⟩ : ∃ w1, w1 = w.alloc (.cells (ncells x (.slice AA x.args.length aac)).toArray 55) := ⟨_, rfl⟩
 rw [← hw1, ← hNN] at hbx
 rw [← hw1] at hb
 have hw1' : w.alloc (.cells #[.int .u8 x.op, .int .u8 x.byo, .int .i64 x.d, .int .i64 x.e, .int .i64 x.a, .int .i64 x.b, .int .i64 x.f, .int .i64 x.cell, .int .u64 x.imm, .slice AA x.args.length aac, .int .i64 x.next, .int .i64 x.els] 55) = w1 := hw1.symm
 have hmk := mark_em hbx i (by omega) (by omega)
 obtain ⟨H, Hga, Hgc, HN, Hx, Hav, Hnn, Hbx⟩ := hd8 h hga hgc hN hx hav hnn hbx
 obtain ⟨Hb, HNN, Hw1, HW1E, Hmk, HR, Hop, Hd⟩ := hd8 hb hNN hw1 hw1' hmk hR hop hd
 have Ha := Lib.hid ha
 clear ha hd hop hR hmk hw1' hw1 hNN hb hbx hnn hav hx hN hgc hga h
 go_enter Tryd.func40, Tryd.ntmps40
 go_upto_region 1 with fail
 rw [HW1E.out, ← HNN.out]
 clear n0 n1 n2 n3 n4 n5 n6 n7 n8 n9 n10 n11 c6 f0 f1
 go_wp2_with fail
 refine Hmk.out.mono ?_
 rintro e w2 ⟨rfl, hE2, hb12⟩
 have hb2 := Hb.out.trans hb12
 have hB2 := hE2.blk
 have m0 := node_cell hB2 rfl 0 (u := .int .u8 7) (by show some (Value.int .u8 x.op) = _; rw [Hop.out])
 have hrange : w2.rangeAt N 0 (ncells x (.slice AA x.args.length aac)) := fun j v hv => by
  rw [hB2.cell (0 + j), Nat.zero_add, List.getElem?_toArray]
  exact hv
 have hmv := memory_em hE2 x (.slice AA x.args.length aac) 7 d a 0 Hop.out (fun _ => Hd.out) Ha.out (fun hh => by rw [Hop.out] at hh; omega) hdn han (by omega) (by omega) (by rw [sz_mark]; omega)
 obtain ⟨HE2, Hb12, Hb2, HB2, Hrange, Hmv⟩ := hd6 hE2 hb12 hb2 hB2 hrange hmv
 clear hmv hrange hB2 hb2 hb12 hE2
 go_wp2_with (refine wpList_load_mid rfl 55 _ rfl N 0 rfl (ncells x (.slice AA x.args.length aac)) _ Hrange.out Tryd.underlying55 rfl (by kernel_rfl) ?_)
 refine Hmv.out.mono ?_
 rintro e w3 ⟨rfl, hE3, hb23⟩
 have hfin := Hb2.out.trans hb23
 have hE4 := hE3.drop
 rw [HR.out] at hE4
 obtain ⟨HE3, Hb23, Hfin, HE4⟩ := hd4 hE3 hb23 hfin hE4
 clear hE4 hfin hb23 hE3
 go_wp2_with fail
 go_end0
 exact ⟨rfl, HE4.out, Hfin.out⟩
theorem node_store {gb go i : Nat} {g : GraphD} {x : NodeD} (h : EmAt w base X E rest) (hga : X.ga = ⟨gb, (go : Nat), none⟩) (hG : GrF w base gb go g) (hx : g.nodes[i]? = some x) (hop : x.op = 8) (a b : Nat) (ha : x.a = (a : Int)) (hbb : x.b = (b : Int)) (han : a < 16 + X.ns) (hbn : b < 16 + X.ns)
  (hns : X.ns ≤ 1048560) (hi : i < 1048576) (hsz : E.sz + 9 ≤ 1099511627776) :
  Calls Tryd.prog 40 #[.pointer (some ⟨X.fp, 0, none⟩), .int .i64 (i : Nat)] w fun e w' => EmGot base X rest w (.tuple #[]) ((E.mark i).memory 8 0 a b) e w' := by
 obtain ⟨R, hR⟩ : ∃ R, (E.mark i).memory 8 0 a b = R := ⟨_, rfl⟩
 rw [hR]
 obtain ⟨f0, f1, _⟩ := h.fn
 rw [hga] at f1
 obtain ⟨_, pv, kv, iv, nv, hgc, _, _, _, hN⟩ := hG
 have c6 := hgc 6 nv rfl
 obtain ⟨NA, nc, rfl, _, _⟩ := hN.slice
 obtain ⟨nad, cs, hna, _, _, _, ⟨av, hcs, hav⟩, z0, nj⟩ := RowsAt.at_ hN hx
 subst hna hcs
 obtain ⟨AA, aac, hava, _, _, _⟩ := hav.slice
 subst hava
 have n0 : w.cell? (nad.add (i * 12)) = some (.int .u8 x.op) := z0 _ rfl
 have n1 := nj 1 _ (by omega) rfl
 have n2 := nj 2 _ (by omega) rfl
 have n3 := nj 3 _ (by omega) rfl
 have n4 := nj 4 _ (by omega) rfl
 have n5 := nj 5 _ (by omega) rfl
 have n6 := nj 6 _ (by omega) rfl
 have n7 := nj 7 _ (by omega) rfl
 have n8 := nj 8 _ (by omega) rfl
 have n9 := nj 9 _ (by omega) rfl
 have n10 := nj 10 _ (by omega) rfl
 have n11 := nj 11 _ (by omega) rfl
 clear nj z0
 obtain ⟨nn, hnn⟩ : ∃ nn, g.nodes.length = nn := ⟨_, rfl⟩
 have hin : (i : Int) < nn := by
  have := (List.getElem?_eq_some_iff.1 hx).1
  omega
 rw [hnn] at c6
 have hbx := h.box 55 (ncells x (.slice AA x.args.length aac)).toArray
 have hb := (Below.refl base w).alloc h.size (.cells (ncells x (.slice AA x.args.length aac)).toArray 55)
 obtain ⟨N, hNN⟩ : ∃ N, N = w.heap.size := ⟨_, rfl⟩
 obtain ⟨w1, hw1⟩ : ∃ w1, w1 = w.alloc (.cells (ncells x (.slice AA x.args.length aac)).toArray 55) := ⟨_, rfl⟩
 rw [← hw1, ← hNN] at hbx
 rw [← hw1] at hb
 have hw1' : w.alloc (.cells #[.int .u8 x.op, .int .u8 x.byo, .int .i64 x.d, .int .i64 x.e, .int .i64 x.a, .int .i64 x.b, .int .i64 x.f, .int .i64 x.cell, .int .u64 x.imm, .slice AA x.args.length aac, .int .i64 x.next, .int .i64 x.els] 55) = w1 := hw1.symm
 have hmk := mark_em hbx i (by omega) (by omega)
 obtain ⟨H, Hga, Hgc, HN, Hx, Hav, Hnn, Hbx⟩ := hd8 h hga hgc hN hx hav hnn hbx
 obtain ⟨Hb, HNN, Hw1, HW1E, Hmk, HR, Hop, Ha⟩ := hd8 hb hNN hw1 hw1' hmk hR hop ha
 have Hbb := Lib.hid hbb
 clear hbb ha hop hR hmk hw1' hw1 hNN hb hbx hnn hav hx hN hgc hga h
 go_enter Tryd.func40, Tryd.ntmps40
 go_upto_region 1 with fail
 rw [HW1E.out, ← HNN.out]
 clear n0 n1 n2 n3 n4 n5 n6 n7 n8 n9 n10 n11 c6 f0 f1
 go_wp2_with fail
 refine Hmk.out.mono ?_
 rintro e w2 ⟨rfl, hE2, hb12⟩
 have hb2 := Hb.out.trans hb12
 have hB2 := hE2.blk
 have m0 := node_cell hB2 rfl 0 (u := .int .u8 8) (by show some (Value.int .u8 x.op) = _; rw [Hop.out])
 have hrange : w2.rangeAt N 0 (ncells x (.slice AA x.args.length aac)) := fun j v hv => by
  rw [hB2.cell (0 + j), Nat.zero_add, List.getElem?_toArray]
  exact hv
 have hmv := memory_em hE2 x (.slice AA x.args.length aac) 8 0 a b Hop.out (fun hh => absurd Hop.out hh) Ha.out (fun _ => Hbb.out) (by omega) han hbn (by omega) (by rw [sz_mark]; omega)
 obtain ⟨HE2, Hb12, Hb2, HB2, Hrange, Hmv⟩ := hd6 hE2 hb12 hb2 hB2 hrange hmv
 clear hmv hrange hB2 hb2 hb12 hE2
 go_wp2_with (refine wpList_load_mid rfl 55 _ rfl N 0 rfl (ncells x (.slice AA x.args.length aac)) _ Hrange.out Tryd.underlying55 rfl (by kernel_rfl) ?_)
 refine Hmv.out.mono ?_
 rintro e w3 ⟨rfl, hE3, hb23⟩
 have hfin := Hb2.out.trans hb23
 have hE4 := hE3.drop
 rw [HR.out] at hE4
 obtain ⟨HE3, Hb23, Hfin, HE4⟩ := hd4 hE3 hb23 hfin hE4
 clear hE4 hfin hb23 hE3
 go_wp2_with fail
 go_end0
 exact ⟨rfl, HE4.out, Hfin.out⟩
end
end Go.Proofs.YtnfjjliiajaijaaDoor
namespace Go.Proofs.YtnfjjliiajaijaaDoor
open Go.RowKit
section
variable {w : World} {base : Nat} {X : EmX} {E : EmS} {rest : List It}
theorem node_defer {gb go i : Nat} {g : GraphD} {x : NodeD} (h : EmAt w base X E rest) (hga : X.ga = ⟨gb, (go : Nat), none⟩) (hG : GrF w base gb go g) (hx : g.nodes[i]? = some x) (hop : x.op = 13) (f : Nat) (hf : x.f = (f : Int)) (hfn : f ≤ 1048576)
  (hns : X.ns ≤ 1048560) (hi : i < 1048576) (hsz : E.sz + 9 ≤ 1099511627776) :
  Calls Tryd.prog 40 #[.pointer (some ⟨X.fp, 0, none⟩), .int .i64 (i : Nat)] w fun e w' => EmGot base X rest w (.tuple #[]) ((E.mark i).system 13 0 0 0 f) e w' := by
 obtain ⟨R, hR⟩ : ∃ R, (E.mark i).system 13 0 0 0 f = R := ⟨_, rfl⟩
 rw [hR]
 obtain ⟨f0, f1, _⟩ := h.fn
 rw [hga] at f1
 obtain ⟨_, pv, kv, iv, nv, hgc, _, _, _, hN⟩ := hG
 have c6 := hgc 6 nv rfl
 obtain ⟨NA, nc, rfl, _, _⟩ := hN.slice
 obtain ⟨nad, cs, hna, _, _, _, ⟨av, hcs, hav⟩, z0, nj⟩ := RowsAt.at_ hN hx
 subst hna hcs
 obtain ⟨AA, aac, hava, _, _, _⟩ := hav.slice
 subst hava
 have n0 : w.cell? (nad.add (i * 12)) = some (.int .u8 x.op) := z0 _ rfl
 have n1 := nj 1 _ (by omega) rfl
 have n2 := nj 2 _ (by omega) rfl
 have n3 := nj 3 _ (by omega) rfl
 have n4 := nj 4 _ (by omega) rfl
 have n5 := nj 5 _ (by omega) rfl
 have n6 := nj 6 _ (by omega) rfl
 have n7 := nj 7 _ (by omega) rfl
 have n8 := nj 8 _ (by omega) rfl
 have n9 := nj 9 _ (by omega) rfl
 have n10 := nj 10 _ (by omega) rfl
 have n11 := nj 11 _ (by omega) rfl
 clear nj z0
 obtain ⟨nn, hnn⟩ : ∃ nn, g.nodes.length = nn := ⟨_, rfl⟩
 have hin : (i : Int) < nn := by
  have := (List.getElem?_eq_some_iff.1 hx).1
  omega
 rw [hnn] at c6
 have hbx := h.box 55 (ncells x (.slice AA x.args.length aac)).toArray
 have hb := (Below.refl base w).alloc h.size (.cells (ncells x (.slice AA x.args.length aac)).toArray 55)
 obtain ⟨N, hNN⟩ : ∃ N, N = w.heap.size := ⟨_, rfl⟩
 obtain ⟨w1, hw1⟩ : ∃ w1, w1 = w.alloc (.cells (ncells x (.slice AA x.args.length aac)).toArray 55) := ⟨_, rfl⟩
 rw [← hw1, ← hNN] at hbx
 rw [← hw1] at hb
 have hw1' : w.alloc (.cells #[.int .u8 x.op, .int .u8 x.byo, .int .i64 x.d, .int .i64 x.e, .int .i64 x.a, .int .i64 x.b, .int .i64 x.f, .int .i64 x.cell, .int .u64 x.imm, .slice AA x.args.length aac, .int .i64 x.next, .int .i64 x.els] 55) = w1 := hw1.symm
 have hmk := mark_em hbx i (by omega) (by omega)
 obtain ⟨H, Hga, Hgc, HN, Hx, Hav, Hnn, Hbx⟩ := hd8 h hga hgc hN hx hav hnn hbx
 obtain ⟨Hb, HNN, Hw1, HW1E, Hmk, HR, Hop, Hf⟩ := hd8 hb hNN hw1 hw1' hmk hR hop hf
 clear hf hop hR hmk hw1' hw1 hNN hb hbx hnn hav hx hN hgc hga h
 go_enter Tryd.func40, Tryd.ntmps40
 go_upto_region 1 with fail
 rw [HW1E.out, ← HNN.out]
 clear n0 n1 n2 n3 n4 n5 n6 n7 n8 n9 n10 n11 c6 f0 f1
 go_wp2_with fail
 refine Hmk.out.mono ?_
 rintro e w2 ⟨rfl, hE2, hb12⟩
 have hb2 := Hb.out.trans hb12
 have hB2 := hE2.blk
 have m0 := node_cell hB2 rfl 0 (u := .int .u8 13) (by show some (Value.int .u8 x.op) = _; rw [Hop.out])
 have hrange : w2.rangeAt N 0 (ncells x (.slice AA x.args.length aac)) := fun j v hv => by
  rw [hB2.cell (0 + j), Nat.zero_add, List.getElem?_toArray]
  exact hv
 have hmv := system_em hE2 x (.slice AA x.args.length aac) 13 0 0 0 f Hop.out (by omega) (fun hh => by rw [Hop.out] at hh; omega) (fun hh => by rw [Hop.out] at hh; omega) (fun hh => by rw [Hop.out] at hh; omega) (fun _ => Hf.out) (by omega) (by omega) (by omega) hfn (by omega) (by rw [sz_mark]; omega)
 obtain ⟨HE2, Hb12, Hb2, HB2, Hrange, Hmv⟩ := hd6 hE2 hb12 hb2 hB2 hrange hmv
 clear hmv hrange hB2 hb2 hb12 hE2
 go_wp2_with (refine wpList_load_mid rfl 55 _ rfl N 0 rfl (ncells x (.slice AA x.args.length aac)) _ Hrange.out Tryd.underlying55 rfl (by kernel_rfl) ?_)
 refine Hmv.out.mono ?_
 rintro e w3 ⟨rfl, hE3, hb23⟩
 have hfin := Hb2.out.trans hb23
 have hE4 := hE3.drop
 rw [HR.out] at hE4
 obtain ⟨HE3, Hb23, Hfin, HE4⟩ := hd4 hE3 hb23 hfin hE4
 clear hE4 hfin hb23 hE3
 go_wp2_with fail
 go_end0
 exact ⟨rfl, HE4.out, Hfin.out⟩
theorem node_panic {gb go i : Nat} {g : GraphD} {x : NodeD} (h : EmAt w base X E rest) (hga : X.ga = ⟨gb, (go : Nat), none⟩) (hG : GrF w base gb go g) (hx : g.nodes[i]? = some x) (hop : x.op = 14) (a : Nat) (ha : x.a = (a : Int)) (han : a < 16 + X.ns)
  (hns : X.ns ≤ 1048560) (hi : i < 1048576) (hsz : E.sz + 9 ≤ 1099511627776) :
  Calls Tryd.prog 40 #[.pointer (some ⟨X.fp, 0, none⟩), .int .i64 (i : Nat)] w fun e w' => EmGot base X rest w (.tuple #[]) ((E.mark i).system 14 0 0 a 0) e w' := by
 obtain ⟨R, hR⟩ : ∃ R, (E.mark i).system 14 0 0 a 0 = R := ⟨_, rfl⟩
 rw [hR]
 obtain ⟨f0, f1, _⟩ := h.fn
 rw [hga] at f1
 obtain ⟨_, pv, kv, iv, nv, hgc, _, _, _, hN⟩ := hG
 have c6 := hgc 6 nv rfl
 obtain ⟨NA, nc, rfl, _, _⟩ := hN.slice
 obtain ⟨nad, cs, hna, _, _, _, ⟨av, hcs, hav⟩, z0, nj⟩ := RowsAt.at_ hN hx
 subst hna hcs
 obtain ⟨AA, aac, hava, _, _, _⟩ := hav.slice
 subst hava
 have n0 : w.cell? (nad.add (i * 12)) = some (.int .u8 x.op) := z0 _ rfl
 have n1 := nj 1 _ (by omega) rfl
 have n2 := nj 2 _ (by omega) rfl
 have n3 := nj 3 _ (by omega) rfl
 have n4 := nj 4 _ (by omega) rfl
 have n5 := nj 5 _ (by omega) rfl
 have n6 := nj 6 _ (by omega) rfl
 have n7 := nj 7 _ (by omega) rfl
 have n8 := nj 8 _ (by omega) rfl
 have n9 := nj 9 _ (by omega) rfl
 have n10 := nj 10 _ (by omega) rfl
 have n11 := nj 11 _ (by omega) rfl
 clear nj z0
 obtain ⟨nn, hnn⟩ : ∃ nn, g.nodes.length = nn := ⟨_, rfl⟩
 have hin : (i : Int) < nn := by
  have := (List.getElem?_eq_some_iff.1 hx).1
  omega
 rw [hnn] at c6
 have hbx := h.box 55 (ncells x (.slice AA x.args.length aac)).toArray
 have hb := (Below.refl base w).alloc h.size (.cells (ncells x (.slice AA x.args.length aac)).toArray 55)
 obtain ⟨N, hNN⟩ : ∃ N, N = w.heap.size := ⟨_, rfl⟩
 obtain ⟨w1, hw1⟩ : ∃ w1, w1 = w.alloc (.cells (ncells x (.slice AA x.args.length aac)).toArray 55) := ⟨_, rfl⟩
 rw [← hw1, ← hNN] at hbx
 rw [← hw1] at hb
 have hw1' : w.alloc (.cells #[.int .u8 x.op, .int .u8 x.byo, .int .i64 x.d, .int .i64 x.e, .int .i64 x.a, .int .i64 x.b, .int .i64 x.f, .int .i64 x.cell, .int .u64 x.imm, .slice AA x.args.length aac, .int .i64 x.next, .int .i64 x.els] 55) = w1 := hw1.symm
 have hmk := mark_em hbx i (by omega) (by omega)
 obtain ⟨H, Hga, Hgc, HN, Hx, Hav, Hnn, Hbx⟩ := hd8 h hga hgc hN hx hav hnn hbx
 obtain ⟨Hb, HNN, Hw1, HW1E, Hmk, HR, Hop, Ha⟩ := hd8 hb hNN hw1 hw1' hmk hR hop ha
 clear ha hop hR hmk hw1' hw1 hNN hb hbx hnn hav hx hN hgc hga h
 go_enter Tryd.func40, Tryd.ntmps40
 go_upto_region 1 with fail
 rw [HW1E.out, ← HNN.out]
 clear n0 n1 n2 n3 n4 n5 n6 n7 n8 n9 n10 n11 c6 f0 f1
 go_wp2_with fail
 refine Hmk.out.mono ?_
 rintro e w2 ⟨rfl, hE2, hb12⟩
 have hb2 := Hb.out.trans hb12
 have hB2 := hE2.blk
 have m0 := node_cell hB2 rfl 0 (u := .int .u8 14) (by show some (Value.int .u8 x.op) = _; rw [Hop.out])
 have hrange : w2.rangeAt N 0 (ncells x (.slice AA x.args.length aac)) := fun j v hv => by
  rw [hB2.cell (0 + j), Nat.zero_add, List.getElem?_toArray]
  exact hv
 have hmv := system_em hE2 x (.slice AA x.args.length aac) 14 0 0 a 0 Hop.out (by omega) (fun hh => by rw [Hop.out] at hh; omega) (fun hh => by rw [Hop.out] at hh; omega) (fun _ => Ha.out) (fun hh => by rw [Hop.out] at hh; omega) (by omega) han (by omega) (by omega) (by omega) (by rw [sz_mark]; omega)
 obtain ⟨HE2, Hb12, Hb2, HB2, Hrange, Hmv⟩ := hd6 hE2 hb12 hb2 hB2 hrange hmv
 clear hmv hrange hB2 hb2 hb12 hE2
 go_wp2_with (refine wpList_load_mid rfl 55 _ rfl N 0 rfl (ncells x (.slice AA x.args.length aac)) _ Hrange.out Tryd.underlying55 rfl (by kernel_rfl) ?_)
 refine Hmv.out.mono ?_
 rintro e w3 ⟨rfl, hE3, hb23⟩
 have hfin := Hb2.out.trans hb23
 have hE4 := hE3.drop
 rw [HR.out] at hE4
 obtain ⟨HE3, Hb23, Hfin, HE4⟩ := hd4 hE3 hb23 hfin hE4
 clear hE4 hfin hb23 hE3
 go_wp2_with fail
 go_end0
 exact ⟨rfl, HE4.out, Hfin.out⟩
theorem node_out {gb go i : Nat} {g : GraphD} {x : NodeD} (h : EmAt w base X E rest) (hga : X.ga = ⟨gb, (go : Nat), none⟩) (hG : GrF w base gb go g) (hx : g.nodes[i]? = some x) (hop : x.op = 17) (a : Nat) (ha : x.a = (a : Int)) (han : a < 16 + X.ns)
  (hns : X.ns ≤ 1048560) (hi : i < 1048576) (hsz : E.sz + 9 ≤ 1099511627776) :
  Calls Tryd.prog 40 #[.pointer (some ⟨X.fp, 0, none⟩), .int .i64 (i : Nat)] w fun e w' => EmGot base X rest w (.tuple #[]) ((E.mark i).system 17 0 0 a 0) e w' := by
 obtain ⟨R, hR⟩ : ∃ R, (E.mark i).system 17 0 0 a 0 = R := ⟨_, rfl⟩
 rw [hR]
 obtain ⟨f0, f1, _⟩ := h.fn
 rw [hga] at f1
 obtain ⟨_, pv, kv, iv, nv, hgc, _, _, _, hN⟩ := hG
 have c6 := hgc 6 nv rfl
 obtain ⟨NA, nc, rfl, _, _⟩ := hN.slice
 obtain ⟨nad, cs, hna, _, _, _, ⟨av, hcs, hav⟩, z0, nj⟩ := RowsAt.at_ hN hx
 subst hna hcs
 obtain ⟨AA, aac, hava, _, _, _⟩ := hav.slice
 subst hava
 have n0 : w.cell? (nad.add (i * 12)) = some (.int .u8 x.op) := z0 _ rfl
 have n1 := nj 1 _ (by omega) rfl
 have n2 := nj 2 _ (by omega) rfl
 have n3 := nj 3 _ (by omega) rfl
 have n4 := nj 4 _ (by omega) rfl
 have n5 := nj 5 _ (by omega) rfl
 have n6 := nj 6 _ (by omega) rfl
 have n7 := nj 7 _ (by omega) rfl
 have n8 := nj 8 _ (by omega) rfl
 have n9 := nj 9 _ (by omega) rfl
 have n10 := nj 10 _ (by omega) rfl
 have n11 := nj 11 _ (by omega) rfl
 clear nj z0
 obtain ⟨nn, hnn⟩ : ∃ nn, g.nodes.length = nn := ⟨_, rfl⟩
 have hin : (i : Int) < nn := by
  have := (List.getElem?_eq_some_iff.1 hx).1
  omega
 rw [hnn] at c6
 have hbx := h.box 55 (ncells x (.slice AA x.args.length aac)).toArray
 have hb := (Below.refl base w).alloc h.size (.cells (ncells x (.slice AA x.args.length aac)).toArray 55)
 obtain ⟨N, hNN⟩ : ∃ N, N = w.heap.size := ⟨_, rfl⟩
 obtain ⟨w1, hw1⟩ : ∃ w1, w1 = w.alloc (.cells (ncells x (.slice AA x.args.length aac)).toArray 55) := ⟨_, rfl⟩
 rw [← hw1, ← hNN] at hbx
 rw [← hw1] at hb
 have hw1' : w.alloc (.cells #[.int .u8 x.op, .int .u8 x.byo, .int .i64 x.d, .int .i64 x.e, .int .i64 x.a, .int .i64 x.b, .int .i64 x.f, .int .i64 x.cell, .int .u64 x.imm, .slice AA x.args.length aac, .int .i64 x.next, .int .i64 x.els] 55) = w1 := hw1.symm
 have hmk := mark_em hbx i (by omega) (by omega)
 obtain ⟨H, Hga, Hgc, HN, Hx, Hav, Hnn, Hbx⟩ := hd8 h hga hgc hN hx hav hnn hbx
 obtain ⟨Hb, HNN, Hw1, HW1E, Hmk, HR, Hop, Ha⟩ := hd8 hb hNN hw1 hw1' hmk hR hop ha
 clear ha hop hR hmk hw1' hw1 hNN hb hbx hnn hav hx hN hgc hga h
 go_enter Tryd.func40, Tryd.ntmps40
 go_upto_region 1 with fail
 rw [HW1E.out, ← HNN.out]
 clear n0 n1 n2 n3 n4 n5 n6 n7 n8 n9 n10 n11 c6 f0 f1
 go_wp2_with fail
 refine Hmk.out.mono ?_
 rintro e w2 ⟨rfl, hE2, hb12⟩
 have hb2 := Hb.out.trans hb12
 have hB2 := hE2.blk
 have m0 := node_cell hB2 rfl 0 (u := .int .u8 17) (by show some (Value.int .u8 x.op) = _; rw [Hop.out])
 have hrange : w2.rangeAt N 0 (ncells x (.slice AA x.args.length aac)) := fun j v hv => by
  rw [hB2.cell (0 + j), Nat.zero_add, List.getElem?_toArray]
  exact hv
 have hmv := system_em hE2 x (.slice AA x.args.length aac) 17 0 0 a 0 Hop.out (by omega) (fun hh => by rw [Hop.out] at hh; omega) (fun hh => by rw [Hop.out] at hh; omega) (fun _ => Ha.out) (fun hh => by rw [Hop.out] at hh; omega) (by omega) han (by omega) (by omega) (by omega) (by rw [sz_mark]; omega)
 obtain ⟨HE2, Hb12, Hb2, HB2, Hrange, Hmv⟩ := hd6 hE2 hb12 hb2 hB2 hrange hmv
 clear hmv hrange hB2 hb2 hb12 hE2
 go_wp2_with (refine wpList_load_mid rfl 55 _ rfl N 0 rfl (ncells x (.slice AA x.args.length aac)) _ Hrange.out Tryd.underlying55 rfl (by kernel_rfl) ?_)
 refine Hmv.out.mono ?_
 rintro e w3 ⟨rfl, hE3, hb23⟩
 have hfin := Hb2.out.trans hb23
 have hE4 := hE3.drop
 rw [HR.out] at hE4
 obtain ⟨HE3, Hb23, Hfin, HE4⟩ := hd4 hE3 hb23 hfin hE4
 clear hE4 hfin hb23 hE3
 go_wp2_with fail
 go_end0
 exact ⟨rfl, HE4.out, Hfin.out⟩
theorem node_exit {gb go i : Nat} {g : GraphD} {x : NodeD} (h : EmAt w base X E rest) (hga : X.ga = ⟨gb, (go : Nat), none⟩) (hG : GrF w base gb go g) (hx : g.nodes[i]? = some x) (hop : x.op = 18) (a : Nat) (ha : x.a = (a : Int)) (han : a < 16 + X.ns)
  (hns : X.ns ≤ 1048560) (hi : i < 1048576) (hsz : E.sz + 9 ≤ 1099511627776) :
  Calls Tryd.prog 40 #[.pointer (some ⟨X.fp, 0, none⟩), .int .i64 (i : Nat)] w fun e w' => EmGot base X rest w (.tuple #[]) ((E.mark i).system 18 0 0 a 0) e w' := by
 obtain ⟨R, hR⟩ : ∃ R, (E.mark i).system 18 0 0 a 0 = R := ⟨_, rfl⟩
 rw [hR]
 obtain ⟨f0, f1, _⟩ := h.fn
 rw [hga] at f1
 obtain ⟨_, pv, kv, iv, nv, hgc, _, _, _, hN⟩ := hG
 have c6 := hgc 6 nv rfl
 obtain ⟨NA, nc, rfl, _, _⟩ := hN.slice
 obtain ⟨nad, cs, hna, _, _, _, ⟨av, hcs, hav⟩, z0, nj⟩ := RowsAt.at_ hN hx
 subst hna hcs
 obtain ⟨AA, aac, hava, _, _, _⟩ := hav.slice
 subst hava
 have n0 : w.cell? (nad.add (i * 12)) = some (.int .u8 x.op) := z0 _ rfl
 have n1 := nj 1 _ (by omega) rfl
 have n2 := nj 2 _ (by omega) rfl
 have n3 := nj 3 _ (by omega) rfl
 have n4 := nj 4 _ (by omega) rfl
 have n5 := nj 5 _ (by omega) rfl
 have n6 := nj 6 _ (by omega) rfl
 have n7 := nj 7 _ (by omega) rfl
 have n8 := nj 8 _ (by omega) rfl
 have n9 := nj 9 _ (by omega) rfl
 have n10 := nj 10 _ (by omega) rfl
 have n11 := nj 11 _ (by omega) rfl
 clear nj z0
 obtain ⟨nn, hnn⟩ : ∃ nn, g.nodes.length = nn := ⟨_, rfl⟩
 have hin : (i : Int) < nn := by
  have := (List.getElem?_eq_some_iff.1 hx).1
  omega
 rw [hnn] at c6
 have hbx := h.box 55 (ncells x (.slice AA x.args.length aac)).toArray
 have hb := (Below.refl base w).alloc h.size (.cells (ncells x (.slice AA x.args.length aac)).toArray 55)
 obtain ⟨N, hNN⟩ : ∃ N, N = w.heap.size := ⟨_, rfl⟩
 obtain ⟨w1, hw1⟩ : ∃ w1, w1 = w.alloc (.cells (ncells x (.slice AA x.args.length aac)).toArray 55) := ⟨_, rfl⟩
 rw [← hw1, ← hNN] at hbx
 rw [← hw1] at hb
 have hw1' : w.alloc (.cells #[.int .u8 x.op, .int .u8 x.byo, .int .i64 x.d, .int .i64 x.e, .int .i64 x.a, .int .i64 x.b, .int .i64 x.f, .int .i64 x.cell, .int .u64 x.imm, .slice AA x.args.length aac, .int .i64 x.next, .int .i64 x.els] 55) = w1 := hw1.symm
 have hmk := mark_em hbx i (by omega) (by omega)
 obtain ⟨H, Hga, Hgc, HN, Hx, Hav, Hnn, Hbx⟩ := hd8 h hga hgc hN hx hav hnn hbx
 obtain ⟨Hb, HNN, Hw1, HW1E, Hmk, HR, Hop, Ha⟩ := hd8 hb hNN hw1 hw1' hmk hR hop ha
 clear ha hop hR hmk hw1' hw1 hNN hb hbx hnn hav hx hN hgc hga h
 go_enter Tryd.func40, Tryd.ntmps40
 go_upto_region 1 with fail
 rw [HW1E.out, ← HNN.out]
 clear n0 n1 n2 n3 n4 n5 n6 n7 n8 n9 n10 n11 c6 f0 f1
 go_wp2_with fail
 refine Hmk.out.mono ?_
 rintro e w2 ⟨rfl, hE2, hb12⟩
 have hb2 := Hb.out.trans hb12
 have hB2 := hE2.blk
 have m0 := node_cell hB2 rfl 0 (u := .int .u8 18) (by show some (Value.int .u8 x.op) = _; rw [Hop.out])
 have hrange : w2.rangeAt N 0 (ncells x (.slice AA x.args.length aac)) := fun j v hv => by
  rw [hB2.cell (0 + j), Nat.zero_add, List.getElem?_toArray]
  exact hv
 have hmv := system_em hE2 x (.slice AA x.args.length aac) 18 0 0 a 0 Hop.out (by omega) (fun hh => by rw [Hop.out] at hh; omega) (fun hh => by rw [Hop.out] at hh; omega) (fun _ => Ha.out) (fun hh => by rw [Hop.out] at hh; omega) (by omega) han (by omega) (by omega) (by omega) (by rw [sz_mark]; omega)
 obtain ⟨HE2, Hb12, Hb2, HB2, Hrange, Hmv⟩ := hd6 hE2 hb12 hb2 hB2 hrange hmv
 clear hmv hrange hB2 hb2 hb12 hE2
 go_wp2_with (refine wpList_load_mid rfl 55 _ rfl N 0 rfl (ncells x (.slice AA x.args.length aac)) _ Hrange.out Tryd.underlying55 rfl (by kernel_rfl) ?_)
 refine Hmv.out.mono ?_
 rintro e w3 ⟨rfl, hE3, hb23⟩
 have hfin := Hb2.out.trans hb23
 have hE4 := hE3.drop
 rw [HR.out] at hE4
 obtain ⟨HE3, Hb23, Hfin, HE4⟩ := hd4 hE3 hb23 hfin hE4
 clear hE4 hfin hb23 hE3
 go_wp2_with fail
 go_end0
 exact ⟨rfl, HE4.out, Hfin.out⟩
theorem node_recover {gb go i : Nat} {g : GraphD} {x : NodeD} (h : EmAt w base X E rest) (hga : X.ga = ⟨gb, (go : Nat), none⟩) (hG : GrF w base gb go g) (hx : g.nodes[i]? = some x) (hop : x.op = 15) (d e_ : Nat) (hd : x.d = (d : Int)) (he : x.e = (e_ : Int)) (hdn : d < 16 + X.ns) (hen : e_ < 16 + X.ns)
  (hns : X.ns ≤ 1048560) (hi : i < 1048576) (hsz : E.sz + 9 ≤ 1099511627776) :
  Calls Tryd.prog 40 #[.pointer (some ⟨X.fp, 0, none⟩), .int .i64 (i : Nat)] w fun e w' => EmGot base X rest w (.tuple #[]) ((E.mark i).system 15 d e_ 0 0) e w' := by
 obtain ⟨R, hR⟩ : ∃ R, (E.mark i).system 15 d e_ 0 0 = R := ⟨_, rfl⟩
 rw [hR]
 obtain ⟨f0, f1, _⟩ := h.fn
 rw [hga] at f1
 obtain ⟨_, pv, kv, iv, nv, hgc, _, _, _, hN⟩ := hG
 have c6 := hgc 6 nv rfl
 obtain ⟨NA, nc, rfl, _, _⟩ := hN.slice
 obtain ⟨nad, cs, hna, _, _, _, ⟨av, hcs, hav⟩, z0, nj⟩ := RowsAt.at_ hN hx
 subst hna hcs
 obtain ⟨AA, aac, hava, _, _, _⟩ := hav.slice
 subst hava
 have n0 : w.cell? (nad.add (i * 12)) = some (.int .u8 x.op) := z0 _ rfl
 have n1 := nj 1 _ (by omega) rfl
 have n2 := nj 2 _ (by omega) rfl
 have n3 := nj 3 _ (by omega) rfl
 have n4 := nj 4 _ (by omega) rfl
 have n5 := nj 5 _ (by omega) rfl
 have n6 := nj 6 _ (by omega) rfl
 have n7 := nj 7 _ (by omega) rfl
 have n8 := nj 8 _ (by omega) rfl
 have n9 := nj 9 _ (by omega) rfl
 have n10 := nj 10 _ (by omega) rfl
 have n11 := nj 11 _ (by omega) rfl
 clear nj z0
 obtain ⟨nn, hnn⟩ : ∃ nn, g.nodes.length = nn := ⟨_, rfl⟩
 have hin : (i : Int) < nn := by
  have := (List.getElem?_eq_some_iff.1 hx).1
  omega
 rw [hnn] at c6
 have hbx := h.box 55 (ncells x (.slice AA x.args.length aac)).toArray
 have hb := (Below.refl base w).alloc h.size (.cells (ncells x (.slice AA x.args.length aac)).toArray 55)
 obtain ⟨N, hNN⟩ : ∃ N, N = w.heap.size := ⟨_, rfl⟩
 obtain ⟨w1, hw1⟩ : ∃ w1, w1 = w.alloc (.cells (ncells x (.slice AA x.args.length aac)).toArray 55) := ⟨_, rfl⟩
 rw [← hw1, ← hNN] at hbx
 rw [← hw1] at hb
 have hw1' : w.alloc (.cells #[.int .u8 x.op, .int .u8 x.byo, .int .i64 x.d, .int .i64 x.e, .int .i64 x.a, .int .i64 x.b, .int .i64 x.f, .int .i64 x.cell, .int .u64 x.imm, .slice AA x.args.length aac, .int .i64 x.next, .int .i64 x.els] 55) = w1 := hw1.symm
 have hmk := mark_em hbx i (by omega) (by omega)
 obtain ⟨H, Hga, Hgc, HN, Hx, Hav, Hnn, Hbx⟩ := hd8 h hga hgc hN hx hav hnn hbx
 obtain ⟨Hb, HNN, Hw1, HW1E, Hmk, HR, Hop, Hd⟩ := hd8 hb hNN hw1 hw1' hmk hR hop hd
 have He := Lib.hid he
 clear he hd hop hR hmk hw1' hw1 hNN hb hbx hnn hav hx hN hgc hga h
 go_enter Tryd.func40, Tryd.ntmps40
 go_upto_region 1 with fail
 rw [HW1E.out, ← HNN.out]
 clear n0 n1 n2 n3 n4 n5 n6 n7 n8 n9 n10 n11 c6 f0 f1
 go_wp2_with fail
 refine Hmk.out.mono ?_
 rintro e w2 ⟨rfl, hE2, hb12⟩
 have hb2 := Hb.out.trans hb12
 have hB2 := hE2.blk
 have m0 := node_cell hB2 rfl 0 (u := .int .u8 15) (by show some (Value.int .u8 x.op) = _; rw [Hop.out])
 have hrange : w2.rangeAt N 0 (ncells x (.slice AA x.args.length aac)) := fun j v hv => by
  rw [hB2.cell (0 + j), Nat.zero_add, List.getElem?_toArray]
  exact hv
 have hmv := system_em hE2 x (.slice AA x.args.length aac) 15 d e_ 0 0 Hop.out (by omega) (fun _ => Hd.out) (fun _ => He.out) (fun hh => by rw [Hop.out] at hh; omega) (fun hh => by rw [Hop.out] at hh; omega) hdn (by omega) hen (by omega) (by omega) (by rw [sz_mark]; omega)
 obtain ⟨HE2, Hb12, Hb2, HB2, Hrange, Hmv⟩ := hd6 hE2 hb12 hb2 hB2 hrange hmv
 clear hmv hrange hB2 hb2 hb12 hE2
 go_wp2_with (refine wpList_load_mid rfl 55 _ rfl N 0 rfl (ncells x (.slice AA x.args.length aac)) _ Hrange.out Tryd.underlying55 rfl (by kernel_rfl) ?_)
 refine Hmv.out.mono ?_
 rintro e w3 ⟨rfl, hE3, hb23⟩
 have hfin := Hb2.out.trans hb23
 have hE4 := hE3.drop
 rw [HR.out] at hE4
 obtain ⟨HE3, Hb23, Hfin, HE4⟩ := hd4 hE3 hb23 hfin hE4
 clear hE4 hfin hb23 hE3
 go_wp2_with fail
 go_end0
 exact ⟨rfl, HE4.out, Hfin.out⟩
theorem node_in {gb go i : Nat} {g : GraphD} {x : NodeD} (h : EmAt w base X E rest) (hga : X.ga = ⟨gb, (go : Nat), none⟩) (hG : GrF w base gb go g) (hx : g.nodes[i]? = some x) (hop : x.op = 16) (d : Nat) (hd : x.d = (d : Int)) (hdn : d < 16 + X.ns)
  (hns : X.ns ≤ 1048560) (hi : i < 1048576) (hsz : E.sz + 9 ≤ 1099511627776) :
  Calls Tryd.prog 40 #[.pointer (some ⟨X.fp, 0, none⟩), .int .i64 (i : Nat)] w fun e w' => EmGot base X rest w (.tuple #[]) ((E.mark i).system 16 d 0 0 0) e w' := by
 obtain ⟨R, hR⟩ : ∃ R, (E.mark i).system 16 d 0 0 0 = R := ⟨_, rfl⟩
 rw [hR]
 obtain ⟨f0, f1, _⟩ := h.fn
 rw [hga] at f1
 obtain ⟨_, pv, kv, iv, nv, hgc, _, _, _, hN⟩ := hG
 have c6 := hgc 6 nv rfl
 obtain ⟨NA, nc, rfl, _, _⟩ := hN.slice
 obtain ⟨nad, cs, hna, _, _, _, ⟨av, hcs, hav⟩, z0, nj⟩ := RowsAt.at_ hN hx
 subst hna hcs
 obtain ⟨AA, aac, hava, _, _, _⟩ := hav.slice
 subst hava
 have n0 : w.cell? (nad.add (i * 12)) = some (.int .u8 x.op) := z0 _ rfl
 have n1 := nj 1 _ (by omega) rfl
 have n2 := nj 2 _ (by omega) rfl
 have n3 := nj 3 _ (by omega) rfl
 have n4 := nj 4 _ (by omega) rfl
 have n5 := nj 5 _ (by omega) rfl
 have n6 := nj 6 _ (by omega) rfl
 have n7 := nj 7 _ (by omega) rfl
 have n8 := nj 8 _ (by omega) rfl
 have n9 := nj 9 _ (by omega) rfl
 have n10 := nj 10 _ (by omega) rfl
 have n11 := nj 11 _ (by omega) rfl
 clear nj z0
 obtain ⟨nn, hnn⟩ : ∃ nn, g.nodes.length = nn := ⟨_, rfl⟩
 have hin : (i : Int) < nn := by
  have := (List.getElem?_eq_some_iff.1 hx).1
  omega
 rw [hnn] at c6
 have hbx := h.box 55 (ncells x (.slice AA x.args.length aac)).toArray
 have hb := (Below.refl base w).alloc h.size (.cells (ncells x (.slice AA x.args.length aac)).toArray 55)
 obtain ⟨N, hNN⟩ : ∃ N, N = w.heap.size := ⟨_, rfl⟩
 obtain ⟨w1, hw1⟩ : ∃ w1, w1 = w.alloc (.cells (ncells x (.slice AA x.args.length aac)).toArray 55) := ⟨_, rfl⟩
 rw [← hw1, ← hNN] at hbx
 rw [← hw1] at hb
 have hw1' : w.alloc (.cells #[.int .u8 x.op, .int .u8 x.byo, .int .i64 x.d, .int .i64 x.e, .int .i64 x.a, .int .i64 x.b, .int .i64 x.f, .int .i64 x.cell, .int .u64 x.imm, .slice AA x.args.length aac, .int .i64 x.next, .int .i64 x.els] 55) = w1 := hw1.symm
 have hmk := mark_em hbx i (by omega) (by omega)
 obtain ⟨H, Hga, Hgc, HN, Hx, Hav, Hnn, Hbx⟩ := hd8 h hga hgc hN hx hav hnn hbx
 obtain ⟨Hb, HNN, Hw1, HW1E, Hmk, HR, Hop, Hd⟩ := hd8 hb hNN hw1 hw1' hmk hR hop hd
 clear hd hop hR hmk hw1' hw1 hNN hb hbx hnn hav hx hN hgc hga h
 go_enter Tryd.func40, Tryd.ntmps40
 go_upto_region 1 with fail
 rw [HW1E.out, ← HNN.out]
 clear n0 n1 n2 n3 n4 n5 n6 n7 n8 n9 n10 n11 c6 f0 f1
 go_wp2_with fail
 refine Hmk.out.mono ?_
 rintro e w2 ⟨rfl, hE2, hb12⟩
 have hb2 := Hb.out.trans hb12
 have hB2 := hE2.blk
 have m0 := node_cell hB2 rfl 0 (u := .int .u8 16) (by show some (Value.int .u8 x.op) = _; rw [Hop.out])
 have hrange : w2.rangeAt N 0 (ncells x (.slice AA x.args.length aac)) := fun j v hv => by
  rw [hB2.cell (0 + j), Nat.zero_add, List.getElem?_toArray]
  exact hv
 have hmv := system_em hE2 x (.slice AA x.args.length aac) 16 d 0 0 0 Hop.out (by omega) (fun _ => Hd.out) (fun hh => by rw [Hop.out] at hh; omega) (fun hh => by rw [Hop.out] at hh; omega) (fun hh => by rw [Hop.out] at hh; omega) hdn (by omega) (by omega) (by omega) (by omega) (by rw [sz_mark]; omega)
 obtain ⟨HE2, Hb12, Hb2, HB2, Hrange, Hmv⟩ := hd6 hE2 hb12 hb2 hB2 hrange hmv
 clear hmv hrange hB2 hb2 hb12 hE2
 go_wp2_with (refine wpList_load_mid rfl 55 _ rfl N 0 rfl (ncells x (.slice AA x.args.length aac)) _ Hrange.out Tryd.underlying55 rfl (by kernel_rfl) ?_)
 refine Hmv.out.mono ?_
 rintro e w3 ⟨rfl, hE3, hb23⟩
 have hfin := Hb2.out.trans hb23
 have hE4 := hE3.drop
 rw [HR.out] at hE4
 obtain ⟨HE3, Hb23, Hfin, HE4⟩ := hd4 hE3 hb23 hfin hE4
 clear hE4 hfin hb23 hE3
 go_wp2_with fail
 go_end0
 exact ⟨rfl, HE4.out, Hfin.out⟩
end
end Go.Proofs.YtnfjjliiajaijaaDoor
