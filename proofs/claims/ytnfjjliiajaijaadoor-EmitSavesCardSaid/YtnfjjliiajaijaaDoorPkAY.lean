/- What is answered ahead of the laws of emitting. Conditions: the table of the bits. What Emit answers, in one form: code, rows, sites as slices. No condition. A graph's four slices, as slices. No condition. -/
import Derived.Test.YtnfjjliiajaijaaDoorPkAA
import Derived.Test.YtnfjjliiajaijaaDoorPkAX
import Derived.Test.YtnfjjliiajaijaaDoorPkAB
set_option linter.unusedVariables false
set_option linter.unusedSimpArgs false
set_option maxRecDepth 100000
set_option maxHeartbeats 10000000
namespace Go.Proofs.YtnfjjliiajaijaaDoor
open Go.RowKit

theorem infoKindL : (Tryd.prog.info? 87).map (fun i => (i.zero, i.size, i.bytes)) = some (some (.int .u8 0), 1, 1) := by kernel_rfl
def kzero (n : Nat) : Array Value := madeCells #[.int .u8 0] n
theorem kzero_list (n : Nat) : (kzero n).toList = (List.replicate n (0 : Int)).map (Value.int .u8) := by
 unfold kzero
 rw [toList_madeCells_one]; simp
theorem nums_kzero {w : World} {K n : Nat} {t : TypeId} (h : Blk w K t (kzero n)) (hn : n ≤ maxLen) : NumsAt .u8 w w.heap.size (.slice (some ⟨K, 0, none⟩) n n) (List.replicate n 0) :=
 ⟨_, _, _, rfl, Nat.le_refl _, hn, by simp, Reads.of_blk h (kzero_list n) (by simp)⟩
theorem make_kinds (n : Nat) (hn : n ≤ 1000000) (W : World) : (Instr.makeSlice 41 (.int .i64 (n : Int)) (.int .i64 (n : Int))).run Tryd.prog W = .ok (.slice (some ⟨W.heap.size, 0, none⟩) n n) (W.alloc (.cells (kzero n) 87)) := by
 obtain ⟨ik, hik, hkz0, hkz1, hkz2⟩ := info_parts infoKindL
 have h := run_make_rowN (P := Tryd.prog) 41 87 ik _ Tryd.underlying41 hik hkz0 .i64 .i64 n n (Nat.le_refl _) (by rw [hkz2]; omega) (by omega) W
 rw [hkz1, Nat.mul_one] at h
 exact h
theorem nums_nilE (k : IntKind) (w : World) (B : Nat) : NumsAt k w B (.slice none 0 0) [] := ⟨none, 0, 0, rfl, Nat.le_refl _, by unfold maxLen; omega, rfl, Reads.none_⟩
def ndE : NodeD := ⟨12, 0, 0, 0, -1, 0, 0, 0, 0, [], 0, 0⟩
def grE : GraphD := ⟨[], List.replicate 16 0, 0, [], false, -1, [ndE], 0⟩
theorem lineE : lineG grE = grE := by rfl
theorem checkE : checkB [grE] true = true := by decide
theorem usesE : [grE].any usesB = false := by decide
theorem overE : linOver [grE] = false := by decide
theorem codeE : 5 ≤ (emitCode (emitN [grE])).length ∧ (emitCode (emitN [grE])).length ≤ 1000 := by decide
theorem goodE : (emitCode (emitN [grE])).all goodP = true := by decide
theorem errE : emitErr [grE] = 0 := emit_fits [grE] checkE usesE overE (by rw [List.map_cons, lineE]; exact goodE) (by rw [List.map_cons, lineE]; show ¬ 1048576 < (emitCode (emitN [grE])).length; have := codeE; omega)
theorem rowsE : ∃ r, (emitN [grE]).rows = [r] ∧ r.start = 2 := ⟨_, rfl, rfl⟩
theorem first_any (w : World) (ht : TabX w) : Calls Tryd.prog 6 #[] w fun e w' => e = .returned (.bool true) ∧ Below w.heap.size w w' := by
 have hmk : ∀ W : World, (Instr.makeSlice 41 (.int .i64 16) (.int .i64 16)).run Tryd.prog W = .ok (.slice (some ⟨W.heap.size, 0, none⟩) 16 16) (W.alloc (.cells (kzero 16) 87)) := make_kinds 16 (by omega)
 obtain ⟨ka, hka⟩ : ∃ ka, ka = kzero 16 := ⟨_, rfl⟩
 obtain ⟨na, hna⟩ : ∃ na : Array Value, na = (ncells ndE (.slice none 0 0)).toArray := ⟨_, rfl⟩
 obtain ⟨H, hH⟩ : ∃ H, H = w.heap.size := ⟨_, rfl⟩
 obtain ⟨ga, hga⟩ : ∃ ga : Array Value, ga = (gcells grE (.slice none 0 0) (.slice (some ⟨H, 0, none⟩) 16 16) (.slice none 0 0) (.slice (some ⟨H + 1, 0, none⟩) 1 1)).toArray := ⟨_, rfl⟩
 have hK := (((Blk.new w 87 ka).alloc (.cells na 55)).alloc (.cells ga 44))
 have hN := ((Blk.new2 w (.cells ka 87) 55 na).alloc (.cells ga 44))
 have hG := (Blk.new ((w.alloc (.cells ka 87)).alloc (.cells na 55)) 44 ga)
 have hb := (((Below.refl w.heap.size w).alloc (Nat.le_refl _) (.cells ka 87)).alloc (by simp) (.cells na 55)).alloc (by simp; omega) (.cells ga 44)
 simp only [World.size_alloc] at hG
 obtain ⟨V, hV⟩ : ∃ V, V = ((w.alloc (.cells ka 87)).alloc (.cells na 55)).alloc (.cells ga 44) := ⟨_, rfl⟩
 rw [← hV] at hK hN hG hb
 rw [← hH] at hK hN hG
 have hgs : GraphsAt V V.heap.size (.slice (some ⟨H + 1 + 1, 0, none⟩) 1 1) [grE] := by
  refine ⟨_, _, _, [gcells grE (.slice none 0 0) (.slice (some ⟨H, 0, none⟩) 16 16) (.slice none 0 0) (.slice (some ⟨H + 1, 0, none⟩) 1 1)], rfl, Nat.le_refl _, by unfold maxLen; omega, rfl, rfl, by simp [gcells], Reads.of_blk hG (by rw [hga]; simp) (by simp [gcells]), fun i z hz => ?_⟩
  match i, hz with
  | 0, hz =>
   simp only [List.getElem?_cons_zero, Option.some.injEq] at hz
   subst hz
   refine ⟨_, rfl, _, _, _, _, rfl, nums_nilE _ _ _, nums_kzero (by rw [← hka]; exact hK) (by unfold maxLen; omega), nums_nilE _ _ _, ?_⟩
   refine ⟨_, _, _, [ncells ndE (.slice none 0 0)], rfl, Nat.le_refl _, by unfold maxLen; omega, rfl, rfl, by simp [ncells], Reads.of_blk hN (by rw [hna]; simp) (by simp [ncells]), fun i z hz => ?_⟩
   match i, hz with
   | 0, hz =>
    simp only [grE, List.getElem?_cons_zero, Option.some.injEq] at hz
    subst hz
    exact ⟨_, rfl, _, rfl, nums_nilE _ _ _⟩
 have hem := emit_any hgs (Nat.le_refl _) ⟨by intro g hg; simp at hg; rw [hg]; simp [grE]; simp [ndE], by simp⟩ (by intro g hg x hx; simp at hg; rw [hg] at hx; simp [grE] at hx; rw [hx]; unfold U64; simp [ndE]) (ht.below hb ht.1)
 have hna' : (#[.int .u8 12, .int .u8 0, .int .i64 0, .int .i64 0, .int .i64 (-1), .int .i64 0, .int .i64 0, .int .i64 0, .int .u64 0, .slice none 0 0, .int .i64 0, .int .i64 0] : Array Value) = na := by rw [hna]; rfl
 have hga' : (#[.slice none 0 0, .slice (some ⟨H, 0, none⟩) 16 16, .int .i64 0, .slice none 0 0, .bool false, .int .i64 (-1), .slice (some ⟨H + 1, 0, none⟩) 1 1, .int .i64 0] : Array Value) = ga := by rw [hga]; rfl
 have hzV := hb.size
 obtain ⟨HK, HN, HG, Hb, Hgs, Hem, Hka, Hna⟩ := hd8 hK hN hG hb hgs hem hka hna
 obtain ⟨Hga, HV, HHH, HNA, HGA, Ht⟩ := hd6 hga hV hH hna' hga' ht
 clear ht hga' hna' hH hV hga hna hka hem hgs hb hG hN hK
 go_enter Tryd.func6, Tryd.ntmps6
 go_wp2_with fail
 rw [← HHH.out, ← Hka.out, HNA.out, HGA.out, ← HV.out]
 refine Hem.out.mono ?_
 intro e w2 hp
 unfold EmitPost at hp
 rw [errE, List.map_cons, lineE, List.map_nil] at hp
 obtain ⟨hb2, hp⟩ := hp
 rcases hp with ⟨h0, _⟩ | ⟨_, bv, fv, sv, lvs, ps, rfl, hl1, hl2, hI⟩
 ·exact absurd rfl h0
 obtain ⟨r, hr, hr2⟩ := rowsE
 have hbv := hI.own (i := 0) rfl
 have hfv : w2.ownsRow V.heap.size 48 6 fv (emitN [grE]).rows.length (rowsCells (emitN [grE]).rows ps) := hI.each (.row fv 48 6 (emitN [grE]).rows.length (rowsCells (emitN [grE]).rows ps)) (by unfold imgIts; simp)
 obtain ⟨SA, sc, hsv, _⟩ := own_any (show w2.ownsRow V.heap.size 112 2 sv (emitN [grE]).sites.length (siteCells (emitN [grE]).sites lvs) from hI.each (.row sv 112 2 (emitN [grE]).sites.length (siteCells (emitN [grE]).sites lvs)) (by unfold imgIts; simp))
 obtain ⟨sn, hsn⟩ : ∃ sn, (emitN [grE]).sites.length = sn := ⟨_, rfl⟩
 rw [hsn] at hsv
 subst hsv
 rw [hr] at hfv hl2
 obtain ⟨L, hL⟩ : ∃ L, (emitCode (emitN [grE])).length = L := ⟨_, rfl⟩
 have hcE := codeE
 rw [hL] at hbv hcE
 obtain ⟨q, qs, rfl⟩ : ∃ q qs, ps = q :: qs := by cases ps with
  | nil => simp at hl2
  | cons q qs => exact ⟨q, qs, rfl⟩
 obtain ⟨BA, bc, rfl, _⟩ := own_any hbv
 obtain ⟨FA, fc, rfl, _, _, hRd⟩ := own_any hfv
 rw [show ([r] : List RowD).length = 1 from rfl]
 obtain ⟨hL5, hL1⟩ := hcE
 have hL8 : (40 : Int) ≤ ((8 * L : Nat) : Int) := by omega
 obtain ⟨ad, rfl, _, hcu⟩ := hRd.2 (by simp)
 have hc0 := hcu 0 (.int .i64 2) (by show some (Value.int .i64 (r.start : Nat)) = _; rw [hr2]; rfl)
 rw [show ad.add 0 = ad by simp [Addr.add]] at hc0
 have hbe := Hb.out.trans (hb2.mono hzV)
 have hc3 := (Below.refl w2.heap.size w2).alloc (Nat.le_refl _) (.cells #[.slice BA (8 * L) bc, .slice (some ad) 1 fc, .slice SA sn sc] 33)
 have hAlt : ad.block < w2.heap.size := World.block_lt_of_cell? _ _ hc0
 have hc4 := (hc3.cell (p := ad) hAlt).trans hc0
 have hB3 := Blk.new w2 33 #[.slice BA (8 * L) bc, .slice (some ad) 1 fc, .slice SA sn sc]
 have kb0 := Blk.cell hB3 0
 have kb1 := Blk.cell hB3 1
 simp only [List.getElem?_toArray, List.getElem?_cons_zero, List.getElem?_cons_succ] at kb0 kb1
 obtain ⟨Hb2, HI, HL1, HL2, Hbv, Hfv, Hbe, Hc3⟩ := hd8 hb2 hI hl1 hl2 hbv hfv hbe hc3
 obtain ⟨HB3, Hcu, HRd, Hr, HL, Hsn⟩ := hd6 hB3 hcu hRd hr hL hsn
 clear hsn hL hr hRd hcu hB3 hc3 hbe hfv hbv hl2 hl1 hI hb2
 go_wp2_with fail
 go_ret
 exact ⟨rfl, Hbe.out.alloc Hbe.out.size _⟩
end Go.Proofs.YtnfjjliiajaijaaDoor
namespace Go.Proofs.YtnfjjliiajaijaaDoor
open Go.RowKit

/-- the image's bytes -/
def codeB (gs : List GraphD) : List Int := if emitErr gs = 0 then (emitCode (emitN (gs.map lineG))).flatMap mbytes else []
def rowsN (gs : List GraphD) : Nat := if emitErr gs = 0 then (emitN (gs.map lineG)).rows.length else 0
def sitesN (gs : List GraphD) : Nat := if emitErr gs = 0 then (emitN (gs.map lineG)).sites.length else 0
theorem flat_mbytes : ∀ l : List MInstD, (l.flatMap mbytes).length = 8 * l.length
 | [] => rfl
 | x :: l => by rw [List.flatMap_cons, List.length_append, flat_mbytes l, mbytes_len, List.length_cons]; omega
theorem emit_out {gs : List GraphD} {w w' : World} {e : Ending} (h : EmitPost gs w e w') :
  Below w.heap.size w w' ∧ ∃ BA bc FA fc SA sc, e = .returned (.tuple #[.agg #[.slice BA (codeB gs).length bc, .slice FA (rowsN gs) fc, .slice SA (sitesN gs) sc], .int .i64 (emitErr gs)]) ∧
   w'.ownsRow w.heap.size 5 1 (.slice BA (codeB gs).length bc) (codeB gs).length (byteVals (codeB gs)) := by
 obtain ⟨hb, h⟩ := h
 refine ⟨hb, ?_⟩
 rcases h with ⟨h0, rfl⟩ | ⟨h0, bv, fv, sv, lvs, ps, rfl, hl1, hl2, hI⟩
 ·unfold codeB rowsN sitesN
  rw [if_neg h0, if_neg h0, if_neg h0]
  exact ⟨none, 0, none, 0, none, 0, rfl, World.ownsRow_nil _ _ _ _⟩
 ·unfold codeB rowsN sitesN
  rw [if_pos h0, if_pos h0, if_pos h0, flat_mbytes]
  have hbv := hI.own (i := 0) rfl
  obtain ⟨BA, bc, rfl, _⟩ := own_any hbv
  obtain ⟨FA, fc, rfl, _⟩ := own_any (show w'.ownsRow w.heap.size 48 6 fv (emitN (gs.map lineG)).rows.length (rowsCells (emitN (gs.map lineG)).rows ps) from hI.each (.row fv 48 6 (emitN (gs.map lineG)).rows.length (rowsCells (emitN (gs.map lineG)).rows ps)) (by unfold imgIts; simp))
  obtain ⟨SA, sc, rfl, _⟩ := own_any (show w'.ownsRow w.heap.size 112 2 sv (emitN (gs.map lineG)).sites.length (siteCells (emitN (gs.map lineG)).sites lvs) from hI.each (.row sv 112 2 (emitN (gs.map lineG)).sites.length (siteCells (emitN (gs.map lineG)).sites lvs)) (by unfold imgIts; simp))
  exact ⟨BA, bc, FA, fc, SA, sc, by rw [h0], hbv⟩
theorem conv_readsE (w : World) {B n c : Nat} {A : Option Addr} {xs : List Int} (h : Reads w B 1 A n (byteVals xs)) : (convert 27 9 (.slice A n c)).run Tryd.prog w = .ok (.string (strOfNums xs)) w :=
 run_conv_reads w _ _ _ Tryd.underlying27 Tryd.underlying5 Tryd.underlying9 h
end Go.Proofs.YtnfjjliiajaijaaDoor
namespace Go.Proofs.YtnfjjliiajaijaaDoor
open Go.RowKit

theorem GraphM.forms {w : World} {B : Nat} {ga : Addr} {g : GraphD} {pv kv iv nv : Value} (h : GraphM w B ga g pv kv iv nv) :
  ∃ PA pn pc KA kn kc IA il ic NA nn nc, pv = .slice PA pn pc ∧ kv = .slice KA kn kc ∧ iv = .slice IA il ic ∧ nv = .slice NA nn nc ∧ g.params.length = pn ∧ g.kinds.length = kn ∧ g.init.length = il ∧ g.nodes.length = nn := by
 obtain ⟨PA, pc, h1, _⟩ := h.params.slice
 obtain ⟨KA, kc, h2, _⟩ := h.kinds.slice
 obtain ⟨IA, ic, h3, _⟩ := h.init.slice
 obtain ⟨NA, nn, nc, css, h4, _, _, h5, _⟩ := h.nodes
 exact ⟨PA, _, pc, KA, _, kc, IA, _, ic, NA, nn, nc, h1, h2, h3, h4, rfl, rfl, rfl, h5⟩
end Go.Proofs.YtnfjjliiajaijaaDoor
