/- Part of the proof, named by its texts: Em1 Em2 Em3 Em4. No condition of its own. -/
import Derived.Test.YtnfjjliiajaijaaDoorPfAA
import Derived.Test.YtnfjjliiajaijaaDoorPfAH
set_option linter.unusedVariables false
set_option linter.unusedSimpArgs false
set_option maxRecDepth 100000
set_option maxHeartbeats 16000000
namespace Go.Proofs.YtnfjjliiajaijaaDoor
open Go.RowKit
def zbK (base : Nat) (X : EmX) (rest : List It) (w : World) (v : Value) (E : EmS) (e : Ending) (w' : World) : Prop := e = .returned v /\ zaz w' base X E rest /\ Below base w w'
section
variable {w : World} {base : Nat} {X : EmX} {E : EmS} {rest : List It}
theorem zcQ (h : zaz w base X E rest) (off : Int) (r : Nat) (hsz : E.sz + 1 <= 1099511627776) :
  Calls Tryd.prog 66 #[.pointer (some ⟨X.fp, 0, none⟩), .int .i64 off, .int .i64 (r : Nat)] w fun e w' => zbK base X rest w (.tuple #[]) (E.store off r) e w' := by
 obtain ⟨f0, _⟩ := h.fn;have hbase := h.size;obtain ⟨o, ho⟩ := mn (w32 off);have how : IntKind.i32.wrap off = o := ho;have hput := za6 (h.alloc (.cells #[.int .u8 5, .int .i64 0, .int .i64 14, .int .i64 (r : Nat), .int .i32 o] 71)) (ms := [⟨5, 0, 14, r, o⟩]) (c := 1) (zal.newS _ rfl _ _ _ _ _ rfl rfl) rfl hsz;have hb := (Below.refl base w).alloc hbase (.cells #[.int .u8 5, .int .i64 0, .int .i64 14, .int .i64 (r : Nat), .int .i32 o] 71);obtain ⟨H, Hput, Hb, Ho⟩ := hd4 h hput hb ho;clear ho hb hput h;go_enter Tryd.func66, Tryd.ntmps66;go_wp2_with fail;refine Hput.out.mono ?_;rintro e w' ⟨rfl, hE, hb'⟩;have hfin := Hb.out.trans hb';obtain ⟨HE, Hfin, Hb'⟩ := hd3 hE hfin hb';clear hb' hfin hE;go_wp2_with fail;go_end0;refine ⟨rfl, ?_, Hfin.out⟩;unfold EmS.store;rw [Ho.out];exact HE.out
theorem zcW (h : zaz w base X E rest) (p into : Nat) (hp : p < 16 + X.ns) (hsz : E.sz + 1 <= 1099511627776) (hns : X.ns <= 1048576) :
  Calls Tryd.prog 72 #[.pointer (some ⟨X.fp, 0, none⟩), .int .i64 (p : Nat), .int .i64 (into : Nat)] w fun e w' => zbK base X rest w (.int .i64 (zax p into : Nat)) (E.read p into) e w' := by
 by_cases h16 : p < 16
 ·have hpi : (p : Int) < 16 := by omega
  have h1 : zax p into = p := by unfold zax; rw [if_pos h16]
  have h2 : E.read p into = E := by unfold EmS.read; rw [if_pos h16]
  rw [h1, h2];obtain ⟨H, H1, H2⟩ := hd3 h h1 h2;clear h2 h1 h;go_enter Tryd.func72, Tryd.ntmps72;go_wp2_with fail;go_ret;exact ⟨rfl, H.out, Below.refl _ _⟩
 ·have hpi : ¬ (p : Int) < 16 := by omega
  obtain ⟨k, hk⟩ : ∃ k, p = 16 + k := ⟨p - 16, by omega⟩
  have h1 : zax p into = into := by unfold zax; rw [if_neg h16]
  have h2 : E.read p into = E.put [⟨4, into, 14, 0, 8 * (k : Int)⟩] := by
   unfold EmS.read zdW w32;rw [if_neg h16, IntKind.wrap_i32, hk]
   have : ((8 * (((16 + k : Nat) : Int) - 16) + 2147483648) % 4294967296 - 2147483648) = 8 * (k : Int) := by omega
   rw [this]
  rw [h1, h2];obtain ⟨f0, _, _, f3, _⟩ := h.fn;obtain ⟨ad, c, hslv, hsc⟩ := h.slot (k := k) (by omega);rw [hslv] at f3;have hbase := h.size
  have hadl : ad.block < w.heap.size := World.block_lt_of_cell? w (ad.add k) hsc |> fun hh => by rw [zas] at hh; exact hh
  have hk0 : (p : Int) - 16 = k := by omega
  have hkl : (k : Int) < X.ns := by omega
  have hk00 : (0 : Int) <= k := by omega
  have hkw : IntKind.i64.wrap (k : Int) = k := by rw [IntKind.wrap_i64]; omega
  have hkw8 : IntKind.i32.wrap (8 * (k : Int)) = 8 * k := by rw [IntKind.wrap_i32]; omega
  have hput := za6 ((h.drew).alloc (.cells #[.int .u8 4, .int .i64 (into : Nat), .int .i64 14, .int .i64 0, .int .i32 (8 * (k : Int))] 71)) (ms := [⟨4, into, 14, 0, 8 * (k : Int)⟩]) (c := 1) (zal.newS _ rfl _ _ _ _ _ rfl rfl) rfl hsz;have hb := ((Below.refl base w).drew).alloc hbase (.cells #[.int .u8 4, .int .i64 (into : Nat), .int .i64 14, .int .i64 0, .int .i32 (8 * (k : Int))] 71);have hfpl := h.fpb.2.1;obtain ⟨H, H1, H2, Hput, Hb, Hslv, Hk⟩ := hd7 h h1 h2 hput hb hslv hk;clear hk hslv hb hput h2 h1 h;go_enter Tryd.func72, Tryd.ntmps72;go_upto_region 3 with fail;refine zaf (S := fun W => W.cell? ⟨X.fp, 0, none⟩ = some (.pointer (some ⟨X.ep, 0, none⟩)) /\ W.cell? ⟨X.fp, 3, none⟩ = some (.slice (some ad) X.ns c) /\ W.cell? (ad.add k) = some (.int .i64 (8 * (k : Int)))) #[false, false, false, false, false, false, false, false, false, false, false, false, false, false, false, false, false, true] (by kernel_rfl) ⟨f0, f3, hsc⟩ (fun hHeld => ?_);refine zaa 0 ?_;refine zaa 1 ?_;refine zaa 2 ?_;refine zaa 3 ?_;refine zaa 4 ?_;refine zaa 5 ?_;refine zaa 6 ?_;refine zaa 7 ?_;refine zaa 8 ?_;refine zaa 9 ?_;refine zaa 10 ?_;refine zaa 11 ?_;refine zaa 12 ?_;refine zaa 13 ?_;refine zaa 14 ?_;refine zaa 15 ?_;refine zag 16 (fun K hK => ?_);go_simp;refine hK.out _ _ ⟨(World.cell?_alloc_lt _ _ ⟨X.fp, 0, none⟩ hfpl).trans f0, (World.cell?_alloc_lt _ _ ⟨X.fp, 3, none⟩ hfpl).trans f3, (World.cell?_alloc_lt _ _ (ad.add k) (by rw [zas]; exact hadl)).trans hsc⟩ (fun hHeld2 => ?_);clear hK K hHeld;refine lay ?_;refine zao 17 (fun K hK => ?_);go_simp;refine Hput.out.mono ?_;rintro e w2 ⟨rfl, hE2, hb2⟩;refine hK.out _ _ ?_;clear hK K;refine lay ?_;refine zai (by kernel_rfl) ?_ _;have hfin := Hb.out.trans hb2;obtain ⟨HE2, Hb2, Hfin⟩ := hd3 hE2 hb2 hfin;clear hfin hb2 hE2;go_wp2_with fail;go_ret;exact ⟨rfl, HE2.out, Hfin.out⟩
theorem zdp (h : zaz w base X E rest) (p r : Nat) (hp : p < 16 + X.ns) (hsz : E.sz + 1 <= 1099511627776) (hns : X.ns <= 1048576) :
  Calls Tryd.prog 70 #[.pointer (some ⟨X.fp, 0, none⟩), .int .i64 (p : Nat), .int .i64 (r : Nat)] w fun e w' => zbK base X rest w (.tuple #[]) (E.done p r) e w' := by
 by_cases h16 : p < 16
 ·have hpi : ¬ (16 : Int) <= p := by omega
  have h2 : E.done p r = E := by unfold EmS.done; rw [if_pos h16]
  rw [h2];obtain ⟨H, H2⟩ := hd2 h h2;clear h2 h;go_enter Tryd.func70, Tryd.ntmps70;go_wp2_with fail;go_end0;exact ⟨rfl, H.out, Below.refl _ _⟩
 ·have hpi : (16 : Int) <= p := by omega
  obtain ⟨k, hk⟩ : ∃ k, p = 16 + k := ⟨p - 16, by omega⟩
  have h2 : E.done p r = E.store (8 * (k : Int)) r := by
   unfold EmS.done zdW;rw [if_neg h16]
   congr 1; omega
  rw [h2];obtain ⟨f0, _, _, f3, _⟩ := h.fn;obtain ⟨ad, c, hslv, hsc⟩ := h.slot (k := k) (by omega);rw [hslv] at f3
  have hk0 : (p : Int) - 16 = k := by omega
  have hkl : (k : Int) < X.ns := by omega
  have hst := zcQ h (8 * (k : Int)) r hsz;obtain ⟨H, H2, Hslv, Hk, Hst⟩ := hd5 h h2 hslv hk hst;clear hst hk hslv h2 h;go_enter Tryd.func70, Tryd.ntmps70;go_wp2_with fail;refine Hst.out.mono ?_;rintro e w' ⟨rfl, hE, hb⟩;obtain ⟨HE, Hb⟩ := hd2 hE hb;clear hb hE;go_wp2_with fail;go_end0;exact ⟨rfl, HE.out, Hb.out⟩
theorem zcP (fp : Nat) (p : Nat) (w : World) :
  Calls Tryd.prog 69 #[.pointer (some ⟨fp, 0, none⟩), .int .i64 (p : Nat)] w fun e w' => e = .returned (.int .i64 (zax p 13 : Nat)) /\ w = w' := by
 by_cases h16 : p < 16
 ·have hpi : (p : Int) < 16 := by omega
  have h1 : zax p 13 = p := by unfold zax; rw [if_pos h16]
  rw [h1];go_enter Tryd.func69, Tryd.ntmps69;go_wp2_with fail;go_ret;exact ⟨rfl, rfl⟩
 ·have hpi : ¬ (p : Int) < 16 := by omega
  have h1 : zax p 13 = 13 := by unfold zax; rw [if_neg h16]
  rw [h1];go_enter Tryd.func69, Tryd.ntmps69;go_wp2_with fail;go_ret;exact ⟨rfl, rfl⟩
theorem zaz.putLabel (h : zaz w base X E rest) (label : Nat) (hl : label < 4611686018427387904) (hsz : E.sz + 1 <= 1099511627776) : ∃ L w1, w.cell? ⟨X.fp, 8, none⟩ = some (.map (some L)) /\ (Instr.mapUpdate 64 (.map (some L)) (.int .i64 (label : Nat)) (.int .i64 (E.code.length : Nat))).run Tryd.prog w = .ok () w1 /\ zaz w1 base X (E.mark label) rest /\ Below base w w1 := by
 obtain ⟨cv, sv, zv, nv, Mc, J, L, lvs, h1, hI⟩ := h;have hb := hI.blk (i := 3) rfl;have hm := hI.imap (i := 5) rfl;have hlt := (hI.at_ (i := 5) rfl).lt L rfl;unfold EmS.sz at hsz;obtain ⟨w1, hrun, hm1, hg⟩ := hm.put label E.code.length (by omega) (by omega) (by unfold maxLen; omega);refine ⟨L, w1, hb.cell 8, hrun, ⟨cv, sv, zv, nv, Mc, J, L, lvs, h1, hI.put (i := 5) rfl hm1 hg⟩, (Below.refl base w).grown hg (by omega) fun b e => by injection e with e; omega⟩
theorem zaz.putJump (h : zaz w base X E rest) (label : Nat) (hl : label < 4611686018427387904) (hsz : E.sz + 1 <= 1099511627776) : ∃ J w1, w.cell? ⟨X.fp, 7, none⟩ = some (.map (some J)) /\ (Instr.mapUpdate 64 (.map (some J)) (.int .i64 (E.code.length : Nat)) (.int .i64 (label : Nat))).run Tryd.prog w = .ok () w1 /\ zaz w1 base X { E with jumps := upd E.jumps E.code.length label, jn := E.jn + 1 } rest /\ Below base w w1 := by
 obtain ⟨cv, sv, zv, nv, Mc, J, L, lvs, h1, hI⟩ := h;have hb := hI.blk (i := 3) rfl;have hm := hI.imap (i := 4) rfl;have hlt := (hI.at_ (i := 4) rfl).lt J rfl;unfold EmS.sz at hsz;obtain ⟨w1, hrun, hm1, hg⟩ := hm.put E.code.length label (by omega) (by omega) (by unfold maxLen; omega);refine ⟨J, w1, hb.cell 7, hrun, ⟨cv, sv, zv, nv, Mc, J, L, lvs, h1, hI.put (i := 4) rfl hm1 hg⟩, (Below.refl base w).grown hg (by omega) fun b e => by injection e with e; omega⟩
theorem zba (h : zaz w base X E rest) (label : Nat) (hl : label < 4611686018427387904) (hsz : E.sz + 1 <= 1099511627776) :
  Calls Tryd.prog 68 #[.pointer (some ⟨X.fp, 0, none⟩), .int .i64 (label : Nat)] w fun e w' => zbK base X rest w (.tuple #[]) (E.mark label) e w' := by
 obtain ⟨L, w1, f8, hrun, hE1, hb1⟩ := h.drew.putLabel label hl hsz;obtain ⟨f0, _⟩ := h.fn;obtain ⟨CA, cc, k0⟩ := h.code;have hb1 := Below.of_drew hb1;have f8 : w.cell? ⟨X.fp, 8, none⟩ = some (.map (some L)) := f8;obtain ⟨H, HE1, Hb1⟩ := hd3 h hE1 hb1;clear hb1 hE1 h;go_enter Tryd.func68, Tryd.ntmps68;go_upto_region 0 with fail;refine zaf (S := fun W => W.cell? ⟨X.fp, 0, none⟩ = some (.pointer (some ⟨X.ep, 0, none⟩)) /\ W.cell? ⟨X.fp, 8, none⟩ = some (.map (some L)) /\ W.cell? ⟨X.ep, 0, none⟩ = some (.slice CA E.code.length cc)) #[false, false, false, false, false, false, false, false, false, false, false, false, false, true] (by kernel_rfl) ⟨f0, f8, k0⟩ (fun hHeld => ?_);refine zaa 0 ?_;refine zaa 1 ?_;refine zaa 2 ?_;refine zaa 3 ?_;refine zaa 4 ?_;refine zaa 5 ?_;refine zaa 6 ?_;refine zaa 7 ?_;refine zaa 8 ?_;refine zaa 9 ?_;refine zaa 10 ?_;refine zaa 11 ?_;refine zaa 12 ?_;refine zao 13 (fun K hK => ?_);go_simp;refine hK.out _ _ ?_;clear hK K;refine lay ?_;refine zai (by kernel_rfl) ?_ _;go_wp2_with fail;go_end0;exact ⟨rfl, HE1.out, Hb1.out⟩
theorem zdj (h : zaz w base X E rest) (op a label : Nat) (hop : op <= 255) (hl : label < 4611686018427387904) (hsz : E.sz + 2 <= 1099511627776) :
  Calls Tryd.prog 75 #[.pointer (some ⟨X.fp, 0, none⟩), .int .u8 (op : Nat), .int .i64 (a : Nat), .int .i64 (label : Nat)] w fun e w' => zbK base X rest w (.tuple #[]) (E.jump op a label) e w' := by
 obtain ⟨J, w1, f7, hrun, hE1, hb1⟩ := h.drew.putJump label hl (by omega);obtain ⟨f0, _⟩ := h.fn;obtain ⟨CA, cc, k0⟩ := h.code;have hb1 := Below.of_drew hb1;have f7 : w.cell? ⟨X.fp, 7, none⟩ = some (.map (some J)) := f7;obtain ⟨g0, _⟩ := hE1.fn;have hbase1 := hE1.size;have hput := za6 (hE1.alloc (.cells #[.int .u8 (op : Nat), .int .i64 0, .int .i64 (a : Nat), .int .i64 0, .int .i32 0] 71)) (ms := [⟨op, 0, a, 0, 0⟩]) (c := 1) (zal.newS _ rfl _ _ _ _ _ rfl rfl) rfl (by unfold EmS.sz at hsz ⊢; simp only; omega);have hb2 := hb1.alloc hbase1 (.cells #[.int .u8 (op : Nat), .int .i64 0, .int .i64 (a : Nat), .int .i64 0, .int .i32 0] 71);obtain ⟨H, HE1, Hb1, Hput, Hb2⟩ := hd5 h hE1 hb1 hput hb2;clear hb2 hput hb1 hE1 h;go_enter Tryd.func75, Tryd.ntmps75;go_upto_region 0 with fail;refine zaf (S := fun W => W.cell? ⟨X.fp, 0, none⟩ = some (.pointer (some ⟨X.ep, 0, none⟩)) /\ W.cell? ⟨X.fp, 7, none⟩ = some (.map (some J)) /\ W.cell? ⟨X.ep, 0, none⟩ = some (.slice CA E.code.length cc)) #[false, false, false, false, false, false, false, false, false, false, false, false, false, true] (by kernel_rfl) ⟨f0, f7, k0⟩ (fun hHeld => ?_);refine zaa 0 ?_;refine zaa 1 ?_;refine zaa 2 ?_;refine zaa 3 ?_;refine zaa 4 ?_;refine zaa 5 ?_;refine zaa 6 ?_;refine zaa 7 ?_;refine zaa 8 ?_;refine zaa 9 ?_;refine zaa 10 ?_;refine zaa 11 ?_;refine zaa 12 ?_;refine zao 13 (fun K hK => ?_);go_simp;refine hK.out _ _ ?_;clear hK K;refine lay ?_;refine zai (by kernel_rfl) ?_ _;clear f0 f7 k0 hHeld;go_wp2_with fail;refine Hput.out.mono ?_;rintro e w' ⟨rfl, hE, hb⟩;have hfin := Hb2.out.trans hb;obtain ⟨HE, Hb, Hfin⟩ := hd3 hE hb hfin;clear hfin hb hE;go_wp2_with fail;go_end0;exact ⟨rfl, HE.out, Hfin.out⟩
end
section
variable {w : World} {base : Nat} {X : EmX} {E : EmS} {rest : List It}
theorem zgD (v : Int) : -2147483648 <= zjO v /\ zjO v <= 2147483647 := by
 unfold zjO;rw [IntKind.wrap_i32]; omega
theorem zer (h : zaz w base X E rest) (r : Nat) (v : Int) (hv : U64 v) (hsz : E.sz + 2 <= 1099511627776) :
  Calls Tryd.prog 67 #[.pointer (some ⟨X.ep, 0, none⟩), .int .i64 (r : Nat), .int .u64 v] w fun e w' => zbK base X rest w (.tuple #[]) (E.number r v) e w' := by
 obtain ⟨o, ho⟩ := mn (zjO v);obtain ⟨ob0, ob1⟩ := zgD v;rw [ho] at ob0 ob1
 have how : wrap32 (v % 4294967296) = o := by rw [<- ho]; unfold zjO; rw [IntKind.wrap_i32, IntKind.wrap_u32]; unfold wrap32; rfl
 have hbase := h.size;unfold U64 at hv;obtain ⟨hv0, hv1⟩ := hv;have hput := za6 (h.alloc (.cells #[.int .u8 1, .int .i64 (r : Nat), .int .i64 0, .int .i64 0, .int .i32 o] 71)) (ms := [⟨1, r, 0, 0, o⟩]) (c := 1) (zal.newS _ rfl _ _ _ _ _ rfl rfl) rfl (by omega);have hb := (Below.refl base w).alloc hbase (.cells #[.int .u8 1, .int .i64 (r : Nat), .int .i64 0, .int .i64 0, .int .i32 o] 71)
 by_cases hw : zk0 v = true
 ·have hN : E.number r v = (E.put [⟨1, r, 0, 0, o⟩]).put [⟨2, r, 0, 0, zjO (v / 4294967296)⟩] := by
   unfold EmS.number; rw [if_pos hw, ho]
  rw [hN];unfold zk0 at hw;rw [ho] at hw
  have hne : (IntKind.u64.wrap o == v) = false := by simpa using hw
  obtain ⟨o2, ho2⟩ := mn (zjO (v / 4294967296))
  have how2 : wrap32 (v / 4294967296) = o2 := by
   have e : IntKind.u32.wrap (v / 4294967296) = v / 4294967296 := by rw [IntKind.wrap_u32]; omega
   rw [<- ho2]; unfold zjO; rw [e, IntKind.wrap_i32]; unfold wrap32; rfl
  rw [ho2]
  have hd0 : 0 <= v / 4294967296 := by omega
  have hd1 : v / 4294967296 <= 4294967295 := by omega
  obtain ⟨H, Hput, Hb, Ho, HN, Hw, Ho2⟩ := hd7 h hput hb ho hN hw ho2;clear ho2 hw hN ho hb hput h;go_enter Tryd.func67, Tryd.ntmps67;go_wp2_with fail;refine Hput.out.mono ?_;rintro e w1 ⟨rfl, hE1, hb1⟩;have hb1' := Hb.out.trans hb1;have hbase1 := hE1.size;have hput2 := za6 (hE1.alloc (.cells #[.int .u8 2, .int .i64 (r : Nat), .int .i64 0, .int .i64 0, .int .i32 o2] 71)) (ms := [⟨2, r, 0, 0, o2⟩]) (c := 1) (zal.newS _ rfl _ _ _ _ _ rfl rfl) rfl (by unfold EmS.sz EmS.put at *; simp only [List.length_append, List.length_singleton]; omega);have hb2 := hb1'.alloc hbase1 (.cells #[.int .u8 2, .int .i64 (r : Nat), .int .i64 0, .int .i64 0, .int .i32 o2] 71);obtain ⟨HE1, Hb1, Hb1', Hput2, Hb2⟩ := hd5 hE1 hb1 hb1' hput2 hb2;clear hb2 hput2 hb1' hb1 hE1;go_wp2_with fail;refine Hput2.out.mono ?_;rintro e w2 ⟨rfl, hE2, hb3⟩;have hb3' := Hb2.out.trans hb3;obtain ⟨HE2, Hb3, Hb3'⟩ := hd3 hE2 hb3 hb3';clear hb3' hb3 hE2;go_wp2_with fail;go_end0;exact ⟨rfl, HE2.out, Hb3'.out⟩
 ·have hN : E.number r v = E.put [⟨1, r, 0, 0, o⟩] := by
   unfold EmS.number; rw [if_neg hw, ho]
  rw [hN];unfold zk0 at hw;rw [ho] at hw
  have hne : (IntKind.u64.wrap o == v) = true := by simpa using hw
  obtain ⟨H, Hput, Hb, Ho, HN, Hw⟩ := hd6 h hput hb ho hN hw;clear hw hN ho hb hput h;go_enter Tryd.func67, Tryd.ntmps67;go_wp2_with fail;refine Hput.out.mono ?_;rintro e w1 ⟨rfl, hE1, hb1⟩;have hb1' := Hb.out.trans hb1;obtain ⟨HE1, Hb1, Hb1'⟩ := hd3 hE1 hb1 hb1';clear hb1' hb1 hE1;go_wp2_with fail;go_end0;exact ⟨rfl, HE1.out, Hb1'.out⟩
theorem zaz.extend {x : It} {w' : World} (h : zaz w base X E rest) (hg : w.grownBy w' none) (hx : x.At w' base) (hb : ∀ b, x.block = some b -> w.heap.size <= b) : zaz w' base X E (x :: rest) := by
 obtain ⟨cv, sv, zv, nv, Mc, J, L, lvs, h1, hI⟩ := h;refine ⟨cv, sv, zv, nv, Mc, J, L, lvs, h1, (hI.new hg hx hb).perm ?_⟩;rw [<- List.append_assoc, <- List.append_assoc];exact List.perm_middle.symm
theorem zaz.box (h : zaz w base X E rest) (t : TypeId) (cs : Array Value) : zaz (w.alloc (.cells cs t)) base X E (.blk w.heap.size t cs :: rest) :=
 h.extend (World.grownBy_alloc w _ none) ⟨h.size, Blk.new w t cs⟩ fun b e => by injection e with e; omega
theorem zaz.drop {x : It} (h : zaz w base X E (x :: rest)) : zaz w base X E rest := by
 obtain ⟨cv, sv, zv, nv, Mc, J, L, lvs, h1, hI⟩ := h;refine ⟨cv, sv, zv, nv, Mc, J, L, lvs, h1, hI.sub ?_⟩;exact (List.Sublist.refl _).append ((List.Sublist.refl _).append (List.sublist_cons_self _ _))
theorem zaz.first {x : It} (h : zaz w base X E (x :: rest)) : x.At w base := by
 obtain ⟨cv, sv, zv, nv, Mc, J, L, lvs, h1, hI⟩ := h;exact hI.each x (List.mem_append_right _ (List.mem_append_right _ List.mem_cons_self))
theorem zaz.blk {g : Nat} {t : TypeId} {cs : Array Value} (h : zaz w base X E (.blk g t cs :: rest)) : Blk w g t cs := (h.first (x := .blk g t cs)).2
theorem zan {w : World} {N : Nat} {t : TypeId} {NC : Array Value} {x : zam} {av : Value} (hB : Blk w N t NC) (hNC : NC = (zae x av).toArray) (j : Nat) {u : Value} (hu : (zae x av)[j]? = some u) : w.cell? ⟨N, j, none⟩ = some u := by
 rw [hB.cell j, hNC, List.getElem?_toArray, hu]
def EmS.move (E : EmS) (d a : Nat) : EmS := if d < 16 /\ a < 16 then E.put [⟨3, d, a, 0, 0⟩] else if d < 16 then E.read a d else (E.read a 13).done d (zax a 13)
theorem zbe (E : EmS) (l : List zaw) : (E.put l).sz = E.sz + l.length := by unfold EmS.sz EmS.put; simp only [List.length_append]; omega
theorem zbq (E : EmS) (p i : Nat) : (E.read p i).sz <= E.sz + 1 := by
 unfold EmS.read
 split
 ·omega
 ·rw [zbe]; simp
theorem zcB (E : EmS) (o : Int) (r : Nat) : (E.store o r).sz = E.sz + 1 := by unfold EmS.store; rw [zbe]; rfl
theorem zcV (E : EmS) (p r : Nat) : (E.done p r).sz <= E.sz + 1 := by
 unfold EmS.done
 split
 ·omega
 ·rw [zcB]; omega
theorem zch (E : EmS) (o a l : Nat) : (E.jump o a l).sz = E.sz + 2 := by unfold EmS.sz EmS.jump; simp only [List.length_append, List.length_singleton]; omega
theorem zaJ (E : EmS) (l : Nat) : (E.mark l).sz = E.sz + 1 := by unfold EmS.sz EmS.mark; simp only; omega
theorem zcr (E : EmS) (r : Nat) (v : Int) : (E.number r v).sz <= E.sz + 2 := by
 unfold EmS.number
 split
 ·rw [zbe, zbe]; simp
 ·rw [zbe]; simp
theorem zmq (h : zaz w base X E rest) (x : zam) (av : Value) (d a : Nat) (hd : x.d = (d : Int)) (ha : x.a = (a : Int)) (hdn : d < 16 + X.ns) (han : a < 16 + X.ns) (hns : X.ns <= 1048576) (hsz : E.sz + 2 <= 1099511627776) :
  Calls Tryd.prog 71 #[.pointer (some ⟨X.fp, 0, none⟩), .agg (zae x av).toArray] w fun e w' => zbK base X rest w (.tuple #[]) (E.move d a) e w' := by
 obtain ⟨NC, hNC⟩ := nm ((zae x av).toArray : Array Value);rw [<- hNC]
 have hNS : NC.size = 12 := by rw [hNC]; rfl
 have hbx := h.box 55 NC;have hb := (Below.refl base w).alloc h.size (.cells NC 55);obtain ⟨N, hN⟩ := nm (w.heap.size);obtain ⟨w1, hw1⟩ := nm (w.alloc (.cells NC 55));rw [<- hw1, <- hN] at hbx;rw [<- hw1] at hb;have hB := hbx.blk;have n2 := hB.cell 2;have n4 := hB.cell 4;rw [hNC] at n2 n4
 replace n2 : w1.cell? ⟨N, 2, none⟩ = some (.int .i64 (d : Nat)) := by rw [n2]; show some (Value.int .i64 x.d) = _; rw [hd]
 replace n4 : w1.cell? ⟨N, 4, none⟩ = some (.int .i64 (a : Nat)) := by rw [n4]; show some (Value.int .i64 x.a) = _; rw [ha]
 obtain ⟨f0, _⟩ := hbx.fn;have hfpl := hbx.fpb.2.1;have hNl := hB.lt;obtain ⟨R, hR⟩ := mn (E.move d a);rw [hR];unfold EmS.move at hR
 by_cases hda : d < 16 /\ a < 16
 ·rw [if_pos hda] at hR
  have hd16 : (d : Int) < 16 := by omega
  have ha16 : (a : Int) < 16 := by omega
  have hput := za6 ((hbx.drew).alloc (.cells #[.int .u8 3, .int .i64 (d : Nat), .int .i64 (a : Nat), .int .i64 0, .int .i32 0] 71)) (ms := [⟨3, d, a, 0, 0⟩]) (c := 1) (zal.newS _ rfl _ _ _ _ _ rfl rfl) rfl (by omega);have hb2 := (hb.drew).alloc hbx.size (.cells #[.int .u8 3, .int .i64 (d : Nat), .int .i64 (a : Nat), .int .i64 0, .int .i32 0] 71);obtain ⟨H, Hbx, Hb, HN, Hw1, HB, HNC, HR⟩ := hd8 h hbx hb hN hw1 hB hNC hR;obtain ⟨Hda, Hput, Hb2⟩ := hd3 hda hput hb2;clear hb2 hput hda hR hNC hB hw1 hN hb hbx h;go_enter Tryd.func71, Tryd.ntmps71;go_upto_region 1 with fail;rw [<- Hw1.out, <- HN.out];go_upto_region 2 with fail;refine zaf (S := fun W => W.cell? ⟨X.fp, 0, none⟩ = some (.pointer (some ⟨X.ep, 0, none⟩)) /\ W.cell? ⟨N, 2, none⟩ = some (.int .i64 (d : Nat)) /\ W.cell? ⟨N, 4, none⟩ = some (.int .i64 (a : Nat))) #[false, false, false, false, false, false, false, false, false, false, true] (by kernel_rfl) ⟨f0, n2, n4⟩ (fun hHeld => ?_);refine zaa 0 ?_;refine zaa 1 ?_;refine zaa 2 ?_;refine zaa 3 ?_;refine zaa 4 ?_;refine zaa 5 ?_;refine zaa 6 ?_;refine zaa 7 ?_;refine zaa 8 ?_;refine zag 9 (fun K hK => ?_);go_simp;refine hK.out _ _ ⟨(World.cell?_alloc_lt _ _ ⟨X.fp, 0, none⟩ hfpl).trans f0, (World.cell?_alloc_lt _ _ ⟨N, 2, none⟩ hNl).trans n2, (World.cell?_alloc_lt _ _ ⟨N, 4, none⟩ hNl).trans n4⟩ (fun hHeld2 => ?_);clear hK K hHeld;refine lay ?_;refine zao 10 (fun K hK => ?_);go_simp;refine Hput.out.mono ?_;rintro e w2 ⟨rfl, hE2, hb3⟩;refine hK.out _ _ ?_;clear hK K;refine lay ?_;refine zai (by kernel_rfl) ?_ _;have hfin := Hb2.out.trans hb3;have hE3 := hE2.drop;rw [HR.out] at hE3;obtain ⟨HE2, Hb3, Hfin, HE3⟩ := hd4 hE2 hb3 hfin hE3;clear hE3 hfin hb3 hE2;go_wp2_with fail;go_end0;exact ⟨rfl, HE3.out, Hfin.out⟩
 ·rw [if_neg hda] at hR
  by_cases hd16 : d < 16
  ·rw [if_pos hd16] at hR
   have hdi : (d : Int) < 16 := by omega
   have hai : ¬ (a : Int) < 16 := by omega
   have hrd := zcW hbx a d han (by omega) hns
   have hrg : zax a d = d := by unfold zax; rw [if_neg (by omega)]
   obtain ⟨H, Hbx, Hb, HN, Hw1, HB, HNC, HR⟩ := hd8 h hbx hb hN hw1 hB hNC hR;obtain ⟨Hda, Hrd, Hrg⟩ := hd3 hda hrd hrg;clear hrg hrd hda hR hNC hB hw1 hN hb hbx h;go_enter Tryd.func71, Tryd.ntmps71;go_upto_region 1 with fail;rw [<- Hw1.out, <- HN.out];go_wp2_with fail;refine Hrd.out.mono ?_;rintro e w2 ⟨rfl, hE2, hb3⟩;have hfin := Hb.out.trans hb3;have hE3 := hE2.drop;rw [HR.out] at hE3;obtain ⟨HE2, Hb3, Hfin, HE3⟩ := hd4 hE2 hb3 hfin hE3;clear hE3 hfin hb3 hE2;go_wp2_with fail;go_end0;exact ⟨rfl, HE3.out, Hfin.out⟩
  ·rw [if_neg hd16] at hR
   have hdi : ¬ (d : Int) < 16 := by omega
   have hrd := zcW hbx.drew a 13 han (by omega) hns;obtain ⟨H, Hbx, Hb, HN, Hw1, HB, HNC, HR⟩ := hd8 h hbx hb hN hw1 hB hNC hR;obtain ⟨Hda, Hrd⟩ := hd2 hda hrd;clear hrd hda hR hNC hB hw1 hN hb hbx h;go_enter Tryd.func71, Tryd.ntmps71;go_upto_region 1 with fail;rw [<- Hw1.out, <- HN.out];go_upto_region 5 with fail;refine zaf (S := fun W => W.cell? ⟨N, 2, none⟩ = some (.int .i64 (d : Nat)) /\ W.cell? ⟨N, 4, none⟩ = some (.int .i64 (a : Nat))) #[false, false, false, false, false, false, false, true] (by kernel_rfl) ⟨n2, n4⟩ (fun hHeld => ?_);refine zaa 0 ?_;refine zaa 1 ?_;refine zaa 2 ?_;refine zaa 3 ?_;refine zaa 4 ?_;refine zaa 5 ?_;refine zag 6 (fun K hK => ?_);go_simp;refine Hrd.out.mono ?_;rintro e w2 ⟨rfl, hE2, hb3⟩;have m2 := zan hE2.blk HNC.out 2 (u := .int .i64 (d : Nat)) (by show some (Value.int .i64 x.d) = _; rw [hd]);have m4 := zan hE2.blk HNC.out 4 (u := .int .i64 (a : Nat)) (by show some (Value.int .i64 x.a) = _; rw [ha]);have hdn2 := zdp hE2 d (zax a 13) hdn (by have := zbq E a 13; omega) hns;obtain ⟨HE2, Hdn2⟩ := hd2 hE2 hdn2;clear hdn2 hE2;refine hK.out _ _ ⟨m2, m4⟩ (fun hHeld2 => ?_);clear hK K hHeld;refine lay ?_;refine zao 7 (fun K hK => ?_);go_simp;refine Hdn2.out.mono ?_;rintro e w3 ⟨rfl, hE3, hb4⟩;refine hK.out _ _ ?_;clear hK K;refine lay ?_;refine zai (by kernel_rfl) ?_ _;have hfin := Hb.out.trans ((Below.of_drew hb3).trans hb4);have hE4 := hE3.drop;rw [HR.out] at hE4;obtain ⟨HE3, Hb3, Hb4, Hfin, HE4⟩ := hd5 hE3 hb3 hb4 hfin hE4;clear hE4 hfin hb4 hb3 hE3;go_wp2_with fail;go_end0;exact ⟨rfl, HE4.out, Hfin.out⟩
end
def EmS.zero (E : EmS) : EmS := { E with zeros := E.zeros ++ [E.code.length] }
def EmS.nul (E : EmS) : EmS := { E with nulls := E.nulls ++ [E.code.length] }
theorem zhK (E : EmS) : E.zero.sz = E.sz + 1 := by unfold EmS.sz EmS.zero; simp only [List.length_append, List.length_singleton]; omega
theorem zis (E : EmS) : E.nul.sz = E.sz + 1 := by unfold EmS.sz EmS.nul; simp only [List.length_append, List.length_singleton]; omega
section
variable {w : World} {base : Nat} {X : EmX} {E : EmS} {rest : List It}
theorem zaz.zero_ (h : zaz w base X E rest) : ∃ v, w.cell? ⟨X.fp, 9, none⟩ = some v /\ w.ownsRow base 3 1 v E.zeros.length (zd9 E.zeros) /\
  ∀ w', w.grownBy w' v.ownBlock -> (∀ g, g = X.fp ∨ g = X.ep -> ∀ j, w'.cell? ⟨g, j, none⟩ = w.cell? ⟨g, j, none⟩) /\ w'.frozen? ⟨X.fp, 9, none⟩ = false /\
   ∀ A c, w'.ownsRow base 3 1 (.slice A (E.zeros.length + 1) c) (E.zeros.length + 1) (zd9 E.zeros ++ [.int .i64 (E.code.length : Nat)]) -> ((Value.slice A (E.zeros.length + 1) c).ownBlock = v.ownBlock ∨ ∀ b, (Value.slice A (E.zeros.length + 1) c).ownBlock = some b -> w.heap.size <= b) ->
    zaz (w'.setCell ⟨X.fp, 9, none⟩ (.slice A (E.zeros.length + 1) c)) base X E.zero rest /\ Below base w (w'.setCell ⟨X.fp, 9, none⟩ (.slice A (E.zeros.length + 1) c)) := by
 obtain ⟨cv, sv, zv, nv, Mc, J, L, lvs, h1, hI⟩ := h;have hb := hI.blk (i := 3) rfl;have he := hI.blk (i := 0) rfl;have ho := hI.own (i := 6) rfl;have hfb := (hI.at_ (i := 3) rfl).lt X.fp rfl;refine ⟨_, hb.cell 9, ho, fun w' hg => ?_⟩;have hn3 := hI.ne_row (i := 3) (j := 6) rfl rfl (by omega);have hn0 := hI.ne_row (i := 0) (j := 6) rfl rfl (by omega);have hb' := hb.grown hg hn3;have he' := he.grown hg hn0;refine ⟨fun g hgg j => ?_, hb'.frozen 9, fun A c ho' hat => ?_⟩
 ·rcases hgg with rfl | rfl
  ·rw [hb'.cell j, hb.cell j]
  ·rw [he'.cell j, he.cell j]
 ·have hI2 := hI.push (i := 6) rfl ho' hg hat;have hI3 := hI2.set_ (i := 3) rfl 9 (.slice A (E.zeros.length + 1) c);refine ⟨⟨cv, sv, (.slice A (E.zeros.length + 1) c), nv, Mc, J, L, lvs, h1, ?_⟩, ?_⟩
  ·have e : (E.zero).zeros.length = E.zeros.length + 1 := by unfold EmS.zero; simp only [List.length_append, List.length_singleton]
   have e2 : zd9 (E.zero).zeros = zd9 E.zeros ++ [.int .i64 (E.code.length : Nat)] := by unfold EmS.zero zd9; simp
   show zaA _ base (za1 X E.zero cv sv (.slice A (E.zeros.length + 1) c) nv Mc J L lvs ++ _);unfold za1;rw [e, e2];exact hI3
  ·exact ((Below.refl base w).grown hg (by omega) fun b e => (ho.lt b e).1).setCell (p := ⟨X.fp, 9, none⟩) hfb.1 _
theorem zaz.nul_ (h : zaz w base X E rest) : ∃ v, w.cell? ⟨X.fp, 10, none⟩ = some v /\ w.ownsRow base 3 1 v E.nulls.length (zd9 E.nulls) /\
  ∀ w', w.grownBy w' v.ownBlock -> (∀ g, g = X.fp ∨ g = X.ep -> ∀ j, w'.cell? ⟨g, j, none⟩ = w.cell? ⟨g, j, none⟩) /\ w'.frozen? ⟨X.fp, 10, none⟩ = false /\
   ∀ A c, w'.ownsRow base 3 1 (.slice A (E.nulls.length + 1) c) (E.nulls.length + 1) (zd9 E.nulls ++ [.int .i64 (E.code.length : Nat)]) -> ((Value.slice A (E.nulls.length + 1) c).ownBlock = v.ownBlock ∨ ∀ b, (Value.slice A (E.nulls.length + 1) c).ownBlock = some b -> w.heap.size <= b) ->
    zaz (w'.setCell ⟨X.fp, 10, none⟩ (.slice A (E.nulls.length + 1) c)) base X E.nul rest /\ Below base w (w'.setCell ⟨X.fp, 10, none⟩ (.slice A (E.nulls.length + 1) c)) := by
 obtain ⟨cv, sv, zv, nv, Mc, J, L, lvs, h1, hI⟩ := h;have hb := hI.blk (i := 3) rfl;have he := hI.blk (i := 0) rfl;have ho := hI.own (i := 7) rfl;have hfb := (hI.at_ (i := 3) rfl).lt X.fp rfl;refine ⟨_, hb.cell 10, ho, fun w' hg => ?_⟩;have hn3 := hI.ne_row (i := 3) (j := 7) rfl rfl (by omega);have hn0 := hI.ne_row (i := 0) (j := 7) rfl rfl (by omega);have hb' := hb.grown hg hn3;have he' := he.grown hg hn0;refine ⟨fun g hgg j => ?_, hb'.frozen 10, fun A c ho' hat => ?_⟩
 ·rcases hgg with rfl | rfl
  ·rw [hb'.cell j, hb.cell j]
  ·rw [he'.cell j, he.cell j]
 ·have hI2 := hI.push (i := 7) rfl ho' hg hat;have hI3 := hI2.set_ (i := 3) rfl 10 (.slice A (E.nulls.length + 1) c);refine ⟨⟨cv, sv, zv, (.slice A (E.nulls.length + 1) c), Mc, J, L, lvs, h1, ?_⟩, ?_⟩
  ·have e : (E.nul).nulls.length = E.nulls.length + 1 := by unfold EmS.nul; simp only [List.length_append, List.length_singleton]
   have e2 : zd9 (E.nul).nulls = zd9 E.nulls ++ [.int .i64 (E.code.length : Nat)] := by unfold EmS.nul zd9; simp
   show zaA _ base (za1 X E.nul cv sv zv (.slice A (E.nulls.length + 1) c) Mc J L lvs ++ _);unfold za1;rw [e, e2];exact hI3
  ·exact ((Below.refl base w).grown hg (by omega) fun b e => (ho.lt b e).1).setCell (p := ⟨X.fp, 10, none⟩) hfb.1 _
theorem zdk : (Tryd.prog.info? 3).map (fun i => (i.zero, i.size, i.bytes)) = some (some (.int .i64 0), 1, 8) := by kernel_rfl
def EmS.alu (E : EmS) (by_ d a b : Nat) (r s : Nat) : EmS := (E.put [⟨32 + by_, zax d 13, r, s, 0⟩]).done d (zax d 13)
def EmS.reckon (E : EmS) (by_ d a b : Nat) : EmS :=
 let E1 := (E.read a 13).read b 15
 let E2 := if by_ = 10 ∨ by_ = 11 then E1.zero.jump 8 (zax b 15) 1048577 else E1
 E2.alu by_ d a b (zax a 13) (zax b 15)
theorem zdg {p into k : Nat} (hi : into < k) (hk : 16 <= k) : zax p into < k := by unfold zax; split <;> omega
theorem zl0 (E : EmS) (b d a c r s : Nat) : (E.alu b d a c r s).sz <= E.sz + 2 := by
 unfold EmS.alu;have := zcV (E.put [⟨32 + b, zax d 13, r, s, 0⟩]) d (zax d 13);rw [zbe] at this;simp only [List.length_singleton] at this; omega
theorem zj1 (h : zaz w base X E rest) (x : zam) (av : Value) (y d a b : Nat) (hy : x.byo = (y : Int)) (hy1 : 7 <= y) (hy2 : y <= 20) (hd : x.d = (d : Int)) (ha : x.a = (a : Int)) (hbb : x.b = (b : Int)) (hdn : d < 16 + X.ns) (han : a < 16 + X.ns) (hbn : b < 16 + X.ns) (hns : X.ns <= 1048576) (hsz : E.sz + 7 <= 1099511627776) :
  Calls Tryd.prog 73 #[.pointer (some ⟨X.fp, 0, none⟩), .agg (zae x av).toArray] w fun e w' => zbK base X rest w (.tuple #[]) (E.reckon y d a b) e w' := by
 obtain ⟨iI, hiI, iz0, iz1, iz2⟩ := info_parts zdk;obtain ⟨NC, hNC⟩ := nm ((zae x av).toArray : Array Value);rw [<- hNC]
 have hNS : NC.size = 12 := by rw [hNC]; rfl
 have hbx := h.box 55 NC;have hb := (Below.refl base w).alloc h.size (.cells NC 55);obtain ⟨N, hN⟩ := nm (w.heap.size);obtain ⟨w1, hw1⟩ := nm (w.alloc (.cells NC 55));rw [<- hw1, <- hN] at hbx;rw [<- hw1] at hb
 have g1 : ∀ W : World, Blk W N 55 NC -> W.cell? ⟨N, 1, none⟩ = some (.int .u8 (y : Nat)) := fun W hB => zan hB hNC 1 (by show some (Value.int .u8 x.byo) = _; rw [hy])
 have g2 : ∀ W : World, Blk W N 55 NC -> W.cell? ⟨N, 2, none⟩ = some (.int .i64 (d : Nat)) := fun W hB => zan hB hNC 2 (by show some (Value.int .i64 x.d) = _; rw [hd])
 have g4 : ∀ W : World, Blk W N 55 NC -> W.cell? ⟨N, 4, none⟩ = some (.int .i64 (a : Nat)) := fun W hB => zan hB hNC 4 (by show some (Value.int .i64 x.a) = _; rw [ha])
 have g5 : ∀ W : World, Blk W N 55 NC -> W.cell? ⟨N, 5, none⟩ = some (.int .i64 (b : Nat)) := fun W hB => zan hB hNC 5 (by show some (Value.int .i64 x.b) = _; rw [hbb])
 have n4 := g4 _ hbx.blk;have n5 := g5 _ hbx.blk;have hrd := zcW hbx.drew a 13 han (by omega) hns;obtain ⟨ra, hra⟩ := mn (zax a 13);obtain ⟨rb, hrb⟩ := mn (zax b 15);obtain ⟨rd, hrdd⟩ := mn (zax d 13);rw [hra] at hrd
 have hra16 : ra < 16 := by rw [<- hra]; exact zdg (by omega) (by omega)
 have hrb16 : rb < 16 := by rw [<- hrb]; exact zdg (by omega) (by omega)
 obtain ⟨R, hR⟩ := mn (E.reckon y d a b);rw [hR];obtain ⟨H, Hbx, Hb, HN, Hw1, HNC, Hg1, Hg2⟩ := hd8 h hbx hb hN hw1 hNC g1 g2;obtain ⟨Hg4, Hg5, Hrd, HR, Hra, Hrb, Hrdd, Hy⟩ := hd8 g4 g5 hrd hR hra hrb hrdd hy;obtain ⟨Hd, Ha, Hbb⟩ := hd3 hd ha hbb;clear hbb ha hd hy hrdd hrb hra hR hrd g5 g4 g2 g1 hNC hw1 hN hb hbx h;go_enter Tryd.func73, Tryd.ntmps73;go_upto_region 1 with fail;rw [<- Hw1.out, <- HN.out];refine zaf (S := fun W => W.cell? ⟨N, 4, none⟩ = some (.int .i64 (a : Nat)) /\ W.cell? ⟨N, 5, none⟩ = some (.int .i64 (b : Nat))) #[false, false, false, false, false, false, false, false, false, false] (by kernel_rfl) ⟨n4, n5⟩ (fun hHeld => ?_);refine zaa 0 ?_;refine zaa 1 ?_;refine zaa 2 ?_;refine zaa 4 ?_;refine zaa 5 ?_;refine zaa 6 ?_;refine zag 3 (fun K hK => ?_);go_simp;refine Hrd.out.mono ?_;rintro e w2 ⟨rfl, hE2, hb12⟩;have hrd2 := zcW hE2 b 15 hbn (by have := zbq E a 13; omega) hns;rw [Hrb.out] at hrd2;have hb2 := Hb.out.trans (Below.of_drew hb12);refine hK.out _ _ ⟨Hg4.out _ hE2.blk, Hg5.out _ hE2.blk⟩ (fun hHeld2 => ?_);clear hK K hHeld;refine lay ?_;obtain ⟨HE2, Hb12, Hrd2, Hb2⟩ := hd4 hE2 hb12 hrd2 hb2;clear hb2 hrd2 hb12 hE2;refine zag 7 (fun K hK => ?_);go_simp;refine Hrd2.out.mono ?_;rintro e w3 ⟨rfl, hE3, hb23⟩;have hb3 := Hb2.out.trans hb23;refine hK.out _ _ ⟨Hg4.out _ hE3.blk, Hg5.out _ hE3.blk⟩ (fun hHeld3 => ?_);clear hK K hHeld2;refine lay ?_;refine zaa 8 ?_;refine zaa 9 ?_;refine zai (by kernel_rfl) ?_ _;have p1 := Hg1.out _ hE3.blk
 have hs3 : ((E.read a 13).read b 15).sz <= E.sz + 2 := by
  have h1 := zbq (E.read a 13) b 15;have h2 := zbq E a 13
  omega
 obtain ⟨E3, hE3e⟩ := mn ((E.read a 13).read b 15);rw [hE3e] at hE3 hs3;have hRR := HR.out;unfold EmS.reckon at hRR;simp only [hE3e] at hRR;clear n4 n5 hHeld3
 by_cases hz : y = 10 ∨ y = 11
 case' neg =>
  rw [if_neg hz] at hRR
  have hz1 : ((y : Int) == 10) = false := by simp; omega
  have hz2 : ((y : Int) == 11) = false := by simp; omega
  obtain ⟨HE3, Hb23, Hb3, HRR, HE3e⟩ := hd5 hE3 hb23 hb3 hRR hE3e;clear hE3e hRR hb3 hb23 hE3;go_upto_region 5 with fail;obtain ⟨w5, hw5⟩ := nm (w3);rw [<- hw5];rw [<- hw5] at HE3 Hb3;have HE5 := HE3;have Hb5 := Hb3;obtain ⟨E5, hE5e⟩ := nm (E3);rw [<- hE5e] at HE5 HRR
  have hs5 : E5.sz <= E.sz + 5 := by rw [hE5e]; omega
  obtain ⟨Hw5, HE5e⟩ := hd2 hw5 hE5e;clear hE5e hw5
 case' pos =>
  rw [if_pos hz] at hRR
  have hc : ((y : Int) == 10) = true ∨ (((y : Int) == 10) = false /\ ((y : Int) == 11) = true) := by
   rcases hz with h | h
   ·exact .inl (by simp; omega)
   ·exact .inr ⟨by simp; omega, by simp; omega⟩
  obtain ⟨v, z9, zo, zk⟩ := hE3.drew.zero_;obtain ⟨ZA, zc, rfl, _⟩ := zak zo
  replace z9 : w3.cell? ⟨X.fp, 9, none⟩ = some (.slice ZA E3.zeros.length zc) := z9
  obtain ⟨f0, _⟩ := hE3.fn;obtain ⟨CA, cc, k0⟩ := hE3.code;have hfpl := hE3.fpb.2.1;have hepl := hE3.fpb.2.2.2;have hbs := hE3.size
  have hsE : E3.zeros.length + E3.code.length <= E3.sz := by unfold EmS.sz; omega
  obtain ⟨HE3, Hb23, Hb3, HRR, HE3e, Hzo, Hzk, Hz⟩ := hd8 hE3 hb23 hb3 hRR hE3e zo zk hz;clear hz zk zo hE3e hRR hb3 hb23 hE3
  rcases hc with hz1 | ⟨hz1, hz2⟩
  all_goals
   go_upto_region 3 with fail;refine zaf (S := fun W => W.cell? ⟨X.fp, 0, none⟩ = some (.pointer (some ⟨X.ep, 0, none⟩)) /\ W.cell? ⟨X.fp, 9, none⟩ = some (.slice ZA E3.zeros.length zc) /\ W.cell? ⟨X.ep, 0, none⟩ = some (.slice CA E3.code.length cc)) #[false, false, false, false, false, false, false, false, false, false, false, false, false, false, false, false, false, true] (by kernel_rfl) ⟨f0, z9, k0⟩ (fun hHeld => ?_);refine zaa 0 ?_;refine zaa 1 ?_;refine zaa 2 ?_;refine zaa 3 ?_;refine zaa 4 ?_;refine zaa 5 ?_;refine zaa 6 ?_;refine zaa 7 ?_;refine zaa 8 ?_;refine zaa 9 ?_;refine zaa 10 ?_;refine zaa 11 ?_;refine zaa 12 ?_;refine zag 13 (fun K hK => ?_);go_simp;refine hK.out _ _ ⟨(World.cell?_alloc_lt _ _ ⟨X.fp, 0, none⟩ hfpl).trans f0, (World.cell?_alloc_lt _ _ ⟨X.fp, 9, none⟩ hfpl).trans z9, (World.cell?_alloc_lt _ _ ⟨X.ep, 0, none⟩ hepl).trans k0⟩ (fun hHeld2 => ?_);clear hK K hHeld;refine lay ?_;refine zag 14 (fun K hK => ?_);refine zaB _ rfl (.tmp 27) (.tmp 36) _ rfl base 3 iI _ 1 8 Tryd.underlying40 hiI iz0 iz1 iz2 rfl (by omega) (.slice ZA E3.zeros.length zc) E3.zeros.length (zd9 E3.zeros) rfl (Hzo.out.alloc _) (w3.heap.size + 1) (some ⟨w3.heap.size, 0, none⟩) 1 1 [.int .i64 (E3.code.length : Nat)] rfl (zal.new1 _ _ _) ?c1 ?c2 ?c3 ?c4 ?_
   case c1 => intro u hu; simp at hu; rw [hu]; rfl
   case c2 => simp only [maxLen]; omega
   case c3 => omega
   case c4 => simp; omega
   intro v4 w4 hown4 hg4 hat4;obtain ⟨A4, c4, rfl, _⟩ := zak hown4;have hg4' := (World.grownBy_alloc w3.drew (.cells #[.int .i64 (E3.code.length : Nat)] 3) _).trans hg4;obtain ⟨zc', zf, zn⟩ := Hzk.out w4 hg4'
   obtain ⟨hE4, hb4⟩ := zn A4 c4 hown4 (by
    rcases hat4 with e | e
    ·exact .inl e
    ·exact .inr fun b hb => by rw [e] at hb; injection hb with hb; simp at hb; simp; omega)
   have y0 := (zc' X.fp (.inl rfl) 0).trans f0;have y9 := (zc' X.fp (.inl rfl) 9).trans z9;have ye := (zc' X.ep (.inr rfl) 0).trans k0;have hjmp := zdj hE4 8 rb 1048577 (by omega) (by omega) (by rw [zhK]; omega);refine hK.out _ _ ⟨y0, y9, ye⟩ (fun hHeld3 => ?_);clear hK K hHeld2;obtain ⟨Hzc', HE4, Hb4, Hjmp, Hown4, Hg4, Hg4', Hat4⟩ := hd8 zc' hE4 hb4 hjmp hown4 hg4 hg4' hat4;have Hzn := Lib.hid zn;clear zn hat4 hg4' hg4 hown4 hjmp hb4 hE4 zc';refine lay ?_;refine zaa 15 ?_;refine zaa 16 ?_;refine zao 17 (fun K hK => ?_);go_simp;refine hK.out _ _ ?_;clear hK K;refine lay ?_;refine zai (by kernel_rfl) ?_ _;clear y0 y9 ye zf f0 z9 k0 hHeld3;go_wp2_with fail;refine Hjmp.out.mono ?_;rintro e w5 ⟨rfl, hE5, hb45⟩;have hb5 := ((Hb3.out.drew).trans (Hb4.out)).trans hb45;rw [<- Hrb.out] at hE5;obtain ⟨E5, hE5e⟩ := nm (E3.zero.jump 8 (zax b 15) 1048577);rw [<- hE5e] at hE5 HRR
   have hs5 : E5.sz <= E.sz + 5 := by rw [hE5e, zch, zhK]; omega
   obtain ⟨HE5, Hb45, Hb5, HE5e⟩ := hd4 hE5 hb45 hb5 hE5e;clear hE5e hb5 hb45 hE5;go_upto_region 5 with fail
 all_goals
  have q2 := Hg2.out _ HE5.out.blk;have q1 := Hg1.out _ HE5.out.blk;have hwr := zcP X.fp d w5;rw [Hrdd.out] at hwr;have Hwr := Lib.hid hwr;clear hwr;go_wp2_with fail;refine Hwr.out.mono ?_;rintro e w6 ⟨rfl, rfl⟩;go_upto_region 6 with fail;obtain ⟨f0, _⟩ := HE5.out.fn;have hfpl := HE5.out.fpb.2.1;have hNl := HE5.out.blk.lt
  have hwy : IntKind.u8.wrap (32 + (y : Int)) = ((32 + y : Nat) : Int) := by rw [IntKind.wrap_u8]; omega
  have hput := za6 ((HE5.out.drew).alloc (.cells #[.int .u8 (32 + y : Nat), .int .i64 (rd : Nat), .int .i64 (ra : Nat), .int .i64 (rb : Nat), .int .i32 0] 71)) (ms := [⟨32 + y, rd, ra, rb, 0⟩]) (c := 1) (zal.newS _ rfl _ _ _ _ _ rfl rfl) rfl (by omega);have hb6 := (Hb5.out.drew).alloc HE5.out.drew.size (.cells #[.int .u8 (32 + y : Nat), .int .i64 (rd : Nat), .int .i64 (ra : Nat), .int .i64 (rb : Nat), .int .i32 0] 71);obtain ⟨Hput, Hb6⟩ := hd2 hput hb6;clear hb6 hput;refine zaf (S := fun W => W.cell? ⟨X.fp, 0, none⟩ = some (.pointer (some ⟨X.ep, 0, none⟩)) /\ W.cell? ⟨N, 1, none⟩ = some (.int .u8 (y : Nat))) #[false, false, false, false, false, false, false, false, false, false, false, false, true] (by kernel_rfl) ⟨f0, q1⟩ (fun hHeld => ?_);refine zaa 0 ?_;refine zaa 1 ?_;refine zaa 2 ?_;refine zaa 3 ?_;refine zaa 4 ?_;refine zaa 5 ?_;refine zaa 6 ?_;refine zaa 7 ?_;refine zaa 8 ?_;refine zaa 9 ?_;refine zaa 10 ?_;refine zag 11 (fun K hK => ?_);go_simp;refine hK.out _ _ ⟨(World.cell?_alloc_lt _ _ ⟨X.fp, 0, none⟩ hfpl).trans f0, (World.cell?_alloc_lt _ _ ⟨N, 1, none⟩ hNl).trans q1⟩ (fun hHeld2 => ?_);clear hK K hHeld;refine lay ?_;refine zao 12 (fun K hK => ?_);go_simp;refine Hput.out.mono ?_;rintro e w7 ⟨rfl, hE7, hb7⟩;refine hK.out _ _ ?_;clear hK K;refine lay ?_;refine zai (by kernel_rfl) ?_ _;have q3 := Hg2.out _ hE7.blk;have hdn2 := zdp hE7 d rd hdn (by rw [zbe]; simp only [List.length_singleton]; omega) hns;have hb8 := Hb6.out.trans hb7;clear q1 q2 f0;obtain ⟨HE7, Hb7, Hdn2, Hb8⟩ := hd4 hE7 hb7 hdn2 hb8;clear hb8 hdn2 hb7 hE7;go_wp2_with fail;refine Hdn2.out.mono ?_;rintro e w8 ⟨rfl, hE8, hb9⟩;have hfin := Hb8.out.trans hb9;have hE9 := hE8.drop;unfold EmS.alu at HRR;have hRf := HRR.out;rw [Hrdd.out, Hra.out, Hrb.out] at hRf;rw [hRf] at hE9;obtain ⟨HE8, Hb9, Hfin, HE9, HRf⟩ := hd5 hE8 hb9 hfin hE9 hRf;clear hRf hE9 hfin hb9 hE8;go_wp2_with fail;go_end0;exact ⟨rfl, HE9.out, Hfin.out⟩
end
def EmS.memory (E : EmS) (o d a b : Nat) : EmS :=
 let E1 := ((E.read a 13).nul).jump 8 (zax a 13) 1048578
 if o = 8 then (E1.read b 15).put [⟨5, 0, zax a 13, zax b 15, 0⟩] else (E1.put [⟨4, zax d 13, zax a 13, 0, 0⟩]).done d (zax d 13)
section
variable {w : World} {base : Nat} {X : EmX} {E : EmS} {rest : List It}
theorem zhj (h : zaz w base X E rest) (x : zam) (av : Value) (o d a b : Nat) (hop : x.op = (o : Int)) (hd : x.op ≠ 8 -> x.d = (d : Int)) (ha : x.a = (a : Int)) (hbb : x.op = 8 -> x.b = (b : Int)) (hdn : d < 16 + X.ns) (han : a < 16 + X.ns) (hbn : b < 16 + X.ns) (hns : X.ns <= 1048576) (hsz : E.sz + 7 <= 1099511627776) :
  Calls Tryd.prog 74 #[.pointer (some ⟨X.fp, 0, none⟩), .agg (zae x av).toArray] w fun e w' => zbK base X rest w (.tuple #[]) (E.memory o d a b) e w' := by
 obtain ⟨iI, hiI, iz0, iz1, iz2⟩ := info_parts zdk;obtain ⟨NC, hNC⟩ := nm ((zae x av).toArray : Array Value);rw [<- hNC]
 have hNS : NC.size = 12 := by rw [hNC]; rfl
 have hbx := h.box 55 NC;have hb := (Below.refl base w).alloc h.size (.cells NC 55);obtain ⟨N, hN⟩ := nm (w.heap.size);obtain ⟨w1, hw1⟩ := nm (w.alloc (.cells NC 55));rw [<- hw1, <- hN] at hbx;rw [<- hw1] at hb
 have g0 : ∀ W : World, Blk W N 55 NC -> W.cell? ⟨N, 0, none⟩ = some (.int .u8 (o : Nat)) := fun W hB => zan hB hNC 0 (by show some (Value.int .u8 x.op) = _; rw [hop])
 have g4 : ∀ W : World, Blk W N 55 NC -> W.cell? ⟨N, 4, none⟩ = some (.int .i64 (a : Nat)) := fun W hB => zan hB hNC 4 (by show some (Value.int .i64 x.a) = _; rw [ha])
 have n4 := g4 _ hbx.blk;have hrd := zcW hbx a 13 han (by omega) hns;obtain ⟨ra, hra⟩ := mn (zax a 13);rw [hra] at hrd
 have hra16 : ra < 16 := by rw [<- hra]; exact zdg (by omega) (by omega)
 obtain ⟨R, hR⟩ := mn (E.memory o d a b);rw [hR];obtain ⟨H, Hbx, Hb, HN, Hw1, HNC, Hg0, Hg4⟩ := hd8 h hbx hb hN hw1 hNC g0 g4;obtain ⟨Hrd, HR, Hra, Hop, Ha, Hd, Hbb⟩ := hd7 hrd hR hra hop ha hd hbb;clear hbb hd ha hop hra hR hrd g4 g0 hNC hw1 hN hb hbx h;go_enter Tryd.func74, Tryd.ntmps74;go_upto_region 1 with fail;rw [<- Hw1.out, <- HN.out];go_wp2_with fail;refine Hrd.out.mono ?_;rintro e w3 ⟨rfl, hE3, hb13⟩;have hb3 := Hb.out.trans hb13;have hs3 : (E.read a 13).sz <= E.sz + 1 := zbq E a 13;obtain ⟨E3, hE3e⟩ := mn (E.read a 13);rw [hE3e] at hE3 hs3;have hRR := HR.out;unfold EmS.memory at hRR;simp only [hE3e, Hra.out] at hRR;obtain ⟨v, z9, zo, zk⟩ := hE3.drew.nul_;obtain ⟨ZA, zc, rfl, _⟩ := zak zo
 replace z9 : w3.cell? ⟨X.fp, 10, none⟩ = some (.slice ZA E3.nulls.length zc) := z9
 obtain ⟨f0, _⟩ := hE3.fn;obtain ⟨CA, cc, k0⟩ := hE3.code;have hfpl := hE3.fpb.2.1;have hepl := hE3.fpb.2.2.2;have hbs := hE3.size
 have hsE : E3.nulls.length + E3.code.length <= E3.sz := by unfold EmS.sz; omega
 clear n4;obtain ⟨HE3, Hb13, Hb3, HRR, HE3e, Hzo, Hzk⟩ := hd7 hE3 hb13 hb3 hRR hE3e zo zk;clear zk zo hE3e hRR hb3 hb13 hE3;go_upto_region 2 with fail;refine zaf (S := fun W => W.cell? ⟨X.fp, 0, none⟩ = some (.pointer (some ⟨X.ep, 0, none⟩)) /\ W.cell? ⟨X.fp, 10, none⟩ = some (.slice ZA E3.nulls.length zc) /\ W.cell? ⟨X.ep, 0, none⟩ = some (.slice CA E3.code.length cc)) #[false, false, false, false, false, false, false, false, false, false, false, false, false, false, false, false, false, true] (by kernel_rfl) ⟨f0, z9, k0⟩ (fun hHeld => ?_);refine zaa 0 ?_;refine zaa 1 ?_;refine zaa 2 ?_;refine zaa 3 ?_;refine zaa 4 ?_;refine zaa 5 ?_;refine zaa 6 ?_;refine zaa 7 ?_;refine zaa 8 ?_;refine zaa 9 ?_;refine zaa 10 ?_;refine zaa 11 ?_;refine zaa 12 ?_;refine zag 13 (fun K hK => ?_);go_simp;refine hK.out _ _ ⟨(World.cell?_alloc_lt _ _ ⟨X.fp, 0, none⟩ hfpl).trans f0, (World.cell?_alloc_lt _ _ ⟨X.fp, 10, none⟩ hfpl).trans z9, (World.cell?_alloc_lt _ _ ⟨X.ep, 0, none⟩ hepl).trans k0⟩ (fun hHeld2 => ?_);clear hK K hHeld;refine lay ?_;refine zag 14 (fun K hK => ?_);refine zaB _ rfl (.tmp 14) (.tmp 23) _ rfl base 3 iI _ 1 8 Tryd.underlying40 hiI iz0 iz1 iz2 rfl (by omega) (.slice ZA E3.nulls.length zc) E3.nulls.length (zd9 E3.nulls) rfl (Hzo.out.alloc _) (w3.heap.size + 1) (some ⟨w3.heap.size, 0, none⟩) 1 1 [.int .i64 (E3.code.length : Nat)] rfl (zal.new1 _ _ _) ?c1 ?c2 ?c3 ?c4 ?_
 case c1 => intro u hu; simp at hu; rw [hu]; rfl
 case c2 => simp only [maxLen]; omega
 case c3 => omega
 case c4 => simp; omega
 intro v4 w4 hown4 hg4 hat4;obtain ⟨A4, c4, rfl, _⟩ := zak hown4;have hg4' := (World.grownBy_alloc w3.drew (.cells #[.int .i64 (E3.code.length : Nat)] 3) _).trans hg4;obtain ⟨zc', zf, zn⟩ := Hzk.out w4 hg4'
 obtain ⟨hE4, hb4⟩ := zn A4 c4 hown4 (by
  rcases hat4 with e | e
  ·exact .inl e
  ·exact .inr fun b hb => by rw [e] at hb; injection hb with hb; simp at hb; simp; omega)
 have y0 := (zc' X.fp (.inl rfl) 0).trans f0;have y9 := (zc' X.fp (.inl rfl) 10).trans z9;have ye := (zc' X.ep (.inr rfl) 0).trans k0;have hjmp := zdj hE4 8 ra 1048578 (by omega) (by omega) (by rw [zis]; omega);refine hK.out _ _ ⟨y0, y9, ye⟩ (fun hHeld3 => ?_);clear hK K hHeld2;obtain ⟨Hzc', HE4, Hb4, Hjmp, Hown4, Hg4, Hg4', Hat4⟩ := hd8 zc' hE4 hb4 hjmp hown4 hg4 hg4' hat4;have Hzn := Lib.hid zn;clear zn hat4 hg4' hg4 hown4 hjmp hb4 hE4 zc';refine lay ?_;refine zaa 15 ?_;refine zaa 16 ?_;refine zao 17 (fun K hK => ?_);go_simp;refine hK.out _ _ ?_;clear hK K;refine lay ?_;refine zai (by kernel_rfl) ?_ _;clear y0 y9 ye zf f0 z9 k0 hHeld3;go_wp2_with fail;refine Hjmp.out.mono ?_;rintro e w5 ⟨rfl, hE5, hb45⟩;have hb5 := ((Hb3.out.drew).trans (Hb4.out)).trans hb45;obtain ⟨E5, hE5e⟩ := nm (E3.nul.jump 8 ra 1048578);rw [<- hE5e] at hE5 HRR
 have hs5 : E5.sz <= E.sz + 4 := by rw [hE5e, zch, zis]; omega
 have q0 := Hg0.out _ hE5.blk;obtain ⟨f0, _⟩ := hE5.fn;have hfpl := hE5.fpb.2.1;have hNl := hE5.blk.lt
 by_cases ho : o = 8
 ·subst ho;rw [if_pos rfl] at HRR
  have g5 : ∀ W : World, Blk W N 55 NC -> W.cell? ⟨N, 5, none⟩ = some (.int .i64 (b : Nat)) := fun W hB => zan hB HNC.out 5 (by show some (Value.int .i64 x.b) = _; rw [Hbb.out (by rw [Hop.out]; rfl)])
  have q5 := g5 _ hE5.blk;obtain ⟨rb, hrb⟩ := mn (zax b 15)
  have hrb16 : rb < 16 := by rw [<- hrb]; exact zdg (by omega) (by omega)
  rw [hrb] at HRR;have hrd2 := zcW hE5.drew b 15 hbn (by omega) hns;rw [hrb] at hrd2;obtain ⟨HE5, Hb45, Hb5, HE5e, Hg5, Hrd2⟩ := hd6 hE5 hb45 hb5 hE5e g5 hrd2;clear hrd2 g5 hE5e hb5 hb45 hE5;go_upto_region 5 with fail;refine zaf (S := fun W => W.cell? ⟨X.fp, 0, none⟩ = some (.pointer (some ⟨X.ep, 0, none⟩)) /\ W.cell? ⟨N, 5, none⟩ = some (.int .i64 (b : Nat))) #[false, false, false, false, false, false, false, false, false, false, false, true] (by kernel_rfl) ⟨f0, q5⟩ (fun hHeld => ?_);refine zaa 0 ?_;refine zaa 1 ?_;refine zaa 2 ?_;refine zaa 3 ?_;refine zaa 4 ?_;refine zaa 5 ?_;refine zaa 6 ?_;refine zaa 7 ?_;refine zag 8 (fun K hK => ?_);go_simp;refine Hrd2.out.mono ?_;rintro e w6 ⟨rfl, hE6, hb56⟩;obtain ⟨f6, _⟩ := hE6.fn;have q6 := Hg5.out _ hE6.blk;have hfpl6 := hE6.fpb.2.1;have hNl6 := hE6.blk.lt;have hput := za6 ((hE6).alloc (.cells #[.int .u8 5, .int .i64 0, .int .i64 (ra : Nat), .int .i64 (rb : Nat), .int .i32 0] 71)) (ms := [⟨5, 0, ra, rb, 0⟩]) (c := 1) (zal.newS _ rfl _ _ _ _ _ rfl rfl) rfl (by have := zbq E5 b 15; omega);have hb6 := ((Hb5.out.drew).trans hb56).alloc hE6.size (.cells #[.int .u8 5, .int .i64 0, .int .i64 (ra : Nat), .int .i64 (rb : Nat), .int .i32 0] 71);refine hK.out _ _ ⟨f6, q6⟩ (fun hHeld2 => ?_);clear hK K hHeld;obtain ⟨HE6, Hb56, Hput, Hb6⟩ := hd4 hE6 hb56 hput hb6;clear hb6 hput hb56 hE6;refine lay ?_;refine zaa 9 ?_;refine zag 10 (fun K hK => ?_);go_simp;refine hK.out _ _ ⟨(World.cell?_alloc_lt _ _ ⟨X.fp, 0, none⟩ hfpl6).trans f6, (World.cell?_alloc_lt _ _ ⟨N, 5, none⟩ hNl6).trans q6⟩ (fun hHeld3 => ?_);clear hK K hHeld2;refine lay ?_;refine zao 11 (fun K hK => ?_);go_simp;refine Hput.out.mono ?_;rintro e w7 ⟨rfl, hE7, hb7⟩;refine hK.out _ _ ?_;clear hK K;refine lay ?_;refine zai (by kernel_rfl) ?_ _;have hfin := Hb6.out.trans hb7;have hE9 := hE7.drop;rw [HRR.out] at hE9;obtain ⟨HE7, Hb7, Hfin, HE9⟩ := hd4 hE7 hb7 hfin hE9;clear hE9 hfin hb7 hE7;clear f0 q0 q5 f6 q6;go_wp2_with fail;go_end0;exact ⟨rfl, HE9.out, Hfin.out⟩
 ·rw [if_neg ho] at HRR
  have hz1 : ((o : Int) == 8) = false := by simp; omega
  have hdd := Hd.out (by rw [Hop.out]; omega)
  have g2 : ∀ W : World, Blk W N 55 NC -> W.cell? ⟨N, 2, none⟩ = some (.int .i64 (d : Nat)) := fun W hB => zan hB HNC.out 2 (by show some (Value.int .i64 x.d) = _; rw [hdd])
  have q2 := g2 _ hE5.blk;obtain ⟨rd, hrdd⟩ := mn (zax d 13);rw [hrdd] at HRR;have hwr := zcP X.fp d w5;rw [hrdd] at hwr;obtain ⟨HE5, Hb45, Hb5, HE5e, Hg2, Hwr, Hdd, Hrdd⟩ := hd8 hE5 hb45 hb5 hE5e g2 hwr hdd hrdd;have Ho := Lib.hid ho;clear ho hrdd hdd hwr g2 hE5e hb5 hb45 hE5;go_wp2_with fail;refine Hwr.out.mono ?_;rintro e w6 ⟨rfl, rfl⟩;have hput := za6 ((HE5.out).alloc (.cells #[.int .u8 4, .int .i64 (rd : Nat), .int .i64 (ra : Nat), .int .i64 0, .int .i32 0] 71)) (ms := [⟨4, rd, ra, 0, 0⟩]) (c := 1) (zal.newS _ rfl _ _ _ _ _ rfl rfl) rfl (by omega);have hb6 := (Hb5.out).alloc HE5.out.size (.cells #[.int .u8 4, .int .i64 (rd : Nat), .int .i64 (ra : Nat), .int .i64 0, .int .i32 0] 71);obtain ⟨Hput, Hb6⟩ := hd2 hput hb6;clear hb6 hput;go_wp2_with fail;refine Hput.out.mono ?_;rintro e w7 ⟨rfl, hE7, hb7⟩;have q3 := Hg2.out _ hE7.blk;have hdn2 := zdp hE7 d rd hdn (by rw [zbe]; simp only [List.length_singleton]; omega) hns;have hb8 := Hb6.out.trans hb7;clear q0 q2 f0;obtain ⟨HE7, Hb7, Hdn2, Hb8⟩ := hd4 hE7 hb7 hdn2 hb8;clear hb8 hdn2 hb7 hE7;go_wp2_with fail;refine Hdn2.out.mono ?_;rintro e w8 ⟨rfl, hE8, hb9⟩;have hfin := Hb8.out.trans hb9;have hE9 := hE8.drop;rw [HRR.out] at hE9;obtain ⟨HE8, Hb9, Hfin, HE9⟩ := hd4 hE8 hb9 hfin hE9;clear hE9 hfin hb9 hE8;go_wp2_with fail;go_end0;exact ⟨rfl, HE9.out, Hfin.out⟩
end
end Go.Proofs.YtnfjjliiajaijaaDoor
