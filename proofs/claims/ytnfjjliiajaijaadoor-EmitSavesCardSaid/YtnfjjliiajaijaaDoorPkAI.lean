/- Code laid for graphs, plainly, and how the emitter lies in memory. No condition. Walks of the emitter's small functions: store, read, done, write, mark, jump, number. Conditions: the emitter lies in memory, places are there. Walks of the emitter's numbers, moves, operations, loads and stores. Conditions: the emitter lies in memory, places are there. Walks of the emitter's operations, loads and stores. Conditions: the emitter lies in memory, places are there. -/
import Derived.Test.YtnfjjliiajaijaaDoorPkAA
import Derived.Test.YtnfjjliiajaijaaDoorPkAH
set_option linter.unusedVariables false
set_option linter.unusedSimpArgs false
set_option maxRecDepth 100000
set_option maxHeartbeats 10000000
namespace Go.Proofs.YtnfjjliiajaijaaDoor
open Go.RowKit

/-- the emitter while a function is laid -/
structure EmS where
 code : List MInstD
 calls : Nat → Option Nat
 cn : Nat
 sites : List (Nat × List Int)
 jumps : Nat → Option Nat
 jn : Nat
 labels : Nat → Option Nat
 ln : Nat
 zeros : List Nat
 nulls : List Nat
def w32 (x : Int) : Int := IntKind.i32.wrap x
def EmS.put (E : EmS) (l : List MInstD) : EmS := { E with code := E.code ++ l }
def EmS.jump (E : EmS) (op a label : Nat) : EmS := { E with jumps := upd E.jumps E.code.length label, jn := E.jn + 1, code := E.code ++ [⟨op, 0, a, 0, 0⟩] }
def EmS.mark (E : EmS) (label : Nat) : EmS := { E with labels := upd E.labels label E.code.length, ln := E.ln + 1 }
def slotOf (p : Nat) : Int := 8 * ((p : Int) - 16)
def EmS.store (E : EmS) (off : Int) (r : Nat) : EmS := E.put [⟨5, 0, 14, r, w32 off⟩]
def EmS.read (E : EmS) (p into : Nat) : EmS := if p < 16 then E else E.put [⟨4, into, 14, 0, w32 (slotOf p)⟩]
def regOf (p into : Nat) : Nat := if p < 16 then p else into
def EmS.done (E : EmS) (p r : Nat) : EmS := if p < 16 then E else E.store (slotOf p) r
def lo32 (v : Int) : Int := IntKind.i32.wrap (IntKind.u32.wrap v)
def wideN (v : Int) : Bool := !(IntKind.u64.wrap (lo32 v) == v)
def EmS.number (E : EmS) (r : Nat) (v : Int) : EmS := if wideN v then (E.put [⟨1, r, 0, 0, lo32 v⟩]).put [⟨2, r, 0, 0, lo32 (v / 4294967296)⟩] else E.put [⟨1, r, 0, 0, lo32 v⟩]
/-- how much there is of it -/
def EmS.sz (E : EmS) : Nat := E.code.length + E.cn + E.sites.length + E.jn + E.ln + E.zeros.length + E.nulls.length

/-- what stays as it is while a function is laid -/
structure EmX where
 ep : Nat
 fp : Nat
 ga : Addr
 ns : Nat
 nc : Nat
 size : Int
 res : Int
 saves : List Mv
 slv : Value
 clv : Value
 svv : Value
 defers : Bool
 pv : Value
 stv : Value
 fv : Value
def emCells (X : EmX) (cv : Value) (Mc : Nat) (sv : Value) : Array Value := #[cv, X.stv, .map (some Mc), X.fv, sv]
def fnCells (X : EmX) (J L : Nat) (zv nv : Value) : Array Value := #[.pointer (some ⟨X.ep, 0, none⟩), .pointer (some X.ga), .int .i64 X.size, X.slv, X.clv, X.svv, .int .i64 X.res, .map (some J), .map (some L), zv, nv, .bool X.defers, X.pv]
def natV (l : List Nat) : List Value := l.map fun i => .int .i64 (i : Nat)
def siteCells (sites : List (Nat × List Int)) (lvs : List Value) : List Value := (sites.zip lvs).flatMap fun p => [.int .i64 (p.1.1 : Nat), p.2]
def liveRows (sites : List (Nat × List Int)) (lvs : List Value) : List It := (sites.zip lvs).map fun p => .row p.2 3 1 p.1.2.length (p.1.2.map (Value.int .i64))
def emItems (X : EmX) (E : EmS) (cv sv zv nv : Value) (Mc J L : Nat) (lvs : List Value) : List It :=
 [.blk X.ep 67 (emCells X cv Mc sv), .row cv 71 5 E.code.length (E.code.flatMap mcells), .map Mc E.cn E.calls,
  .blk X.fp 101 (fnCells X J L zv nv), .map J E.jn E.jumps, .map L E.ln E.labels, .row zv 3 1 E.zeros.length (natV E.zeros), .row nv 3 1 E.nulls.length (natV E.nulls),
  .row X.slv 3 1 X.ns ((wordsL 0 X.ns).map (Value.int .i64)), .row X.clv 3 1 X.nc ((wordsL X.ns X.nc).map (Value.int .i64)), .row X.svv 50 2 X.saves.length (mvcells X.saves), .row sv 112 2 E.sites.length (siteCells E.sites lvs)]
/-- the emitter and the function in memory, and all that lies beside them -/
def EmAt (w : World) (base : Nat) (X : EmX) (E : EmS) (rest : List It) : Prop :=
 ∃ cv sv zv nv Mc J L lvs, lvs.length = E.sites.length ∧ Items w base (emItems X E cv sv zv nv Mc J L lvs ++ (liveRows E.sites lvs ++ rest))
theorem infoMI : (Tryd.prog.info? 71).map (fun i => (i.zero, i.size, i.bytes)) = some (some (.agg #[.int .u8 0, .int .i64 0, .int .i64 0, .int .i64 0, .int .i32 0]), 5, 40) := by kernel_rfl
theorem mcells_one (l : List MInstD) : ∀ u ∈ l.flatMap mcells, u.oneCell' = true := by
 intro u hu
 obtain ⟨i, _, hi⟩ := List.mem_flatMap.1 hu
 simp only [mcells, List.mem_cons, List.not_mem_nil, or_false] at hi
 rcases hi with rfl | rfl | rfl | rfl | rfl <;> rfl
theorem put_raw {w : World} {base i j ep n m c B : Nat} {l : List It} {cv a2 a3 a4 a5 : Value} {code ms : List MInstD} {A : Option Addr} (h : Items w base l) (hi : l[i]? = some (.blk ep 67 #[cv, a2, a3, a4, a5])) (hj : l[j]? = some (.row cv 71 5 n (code.flatMap mcells))) (hij : i ≠ j)
  (hR : Reads w B 5 A m (ms.flatMap mcells)) (hnm : n + m ≤ 1099511627776) (hbase : base ≤ w.heap.size) :
  Calls Tryd.prog 18 #[.pointer (some ⟨ep, 0, none⟩), .slice A m c] w fun e w' => e = .returned (.tuple #[]) ∧ (∃ cv', Items w' base ((l.set j (.row cv' 71 5 (n + m) ((code ++ ms).flatMap mcells))).set i (.blk ep 67 #[cv', a2, a3, a4, a5]))) ∧ Below base w w' := by
 obtain ⟨i0, hi0, hz0, hz1, hz2⟩ := info_parts infoMI
 have hB := h.blk hi
 have hO := h.own hj
 obtain ⟨CA, cc, rfl, _⟩ := own_any hO
 have hne := h.ne_row hi hj hij
 have hep := (h.at_ hi).1
 have k0 := Blk.cell hB 0
 simp only [List.getElem?_toArray, List.getElem?_cons_zero, List.getElem?_cons_succ] at k0
 obtain ⟨H, Hi, Hj, HR, HB, HO⟩ := hd6 h hi hj hR hB hO
 clear hO hB hR hj hi h
 go_enter Tryd.func18, Tryd.ntmps18
 go_wp2_with (first
  | (at_builtin
     refine wpList_append_any _ rfl (.tmp 8) (.tmp 9) _ rfl base 71 i0 _ 5 40 Tryd.underlying65 hi0 hz0 hz1 hz2 rfl (by omega) (.slice CA n cc) n (code.flatMap mcells) rfl HO.out B A m c (ms.flatMap mcells) rfl HR.out ?c1 ?c2 ?c3 ?c4 ?_
     case c1 => exact mcells_one ms
     case c2 => simp only [maxLen]; omega
     case c3 => omega
     case c4 => exact hbase
     intro v2 w2 hown2 hg2 hat2
     obtain ⟨A2, x2, rfl, _⟩ := own_any hown2
     have hB2 := HB.out.grown hg2 hne
     have k2 := Blk.cell hB2 0
     have f2 := Blk.frozen hB2 0
     simp only [List.getElem?_toArray, List.getElem?_cons_zero, List.getElem?_cons_succ] at k2
     have Hown2 := Lib.hid hown2
     have Hg2 := Lib.hid hg2
     have Hat2 := Lib.hid hat2
     clear hB2 hown2 hg2 hat2))
 have hI2 := H.out.push Hj.out Hown2.out Hg2.out (by
  rcases Hat2.out with e | e
  ·exact .inl e
  ·exact .inr fun b hb => by rw [e] at hb; injection hb with hb; omega)
 have hi2 : (l.set j (.row (.slice A2 (n + m) x2) 71 5 (n + m) (code.flatMap mcells ++ ms.flatMap mcells)))[i]? = some (.blk ep 67 #[.slice CA n cc, a2, a3, a4, a5]) := by
  rw [List.getElem?_set_ne (Ne.symm hij)]; exact Hi.out
 have hI3 := hI2.set_ hi2 0 (.slice A2 (n + m) x2)
 simp only [List.setIfInBounds_toArray, List.set_cons_zero] at hI3
 have hb2 : Below base w w2 := (Below.refl base w).grown Hg2.out hbase (fun k e => (HO.out.lt k e).1)
 have hb3 := hb2.setCell (p := ⟨ep, 0, none⟩) hep (.slice A2 (n + m) x2)
 rw [← List.flatMap_append] at hI3
 obtain ⟨HI2, Hi2, HI3, Hb2, Hb3⟩ := hd5 hI2 hi2 hI3 hb2 hb3
 clear hb3 hb2 hI3 hi2 hI2
 go_wp2_with fail
 go_end0
 exact ⟨rfl, ⟨(.slice A2 (n + m) x2), HI3.out⟩, Hb3.out⟩
section
variable {w w' : World} {base : Nat} {X : EmX} {E : EmS} {rest : List It}
theorem EmAt.keep (h : EmAt w base X E rest) (hg : w.grownBy w' none) : EmAt w' base X E rest := by
 obtain ⟨cv, sv, zv, nv, Mc, J, L, lvs, h1, h2⟩ := h
 exact ⟨cv, sv, zv, nv, Mc, J, L, lvs, h1, h2.keep hg⟩
theorem EmAt.alloc (h : EmAt w base X E rest) (o : Obj) : EmAt (w.alloc o) base X E rest := h.keep (World.grownBy_alloc w o none)
theorem EmAt.drew (h : EmAt w base X E rest) : EmAt w.drew base X E rest := h.keep (only_drew (World.grownBy.refl w none))
theorem EmAt.below (h : EmAt w base X E rest) (hb : Below w.heap.size w w') : EmAt w' base X E rest := h.keep (only_of_below hb none)
/-- what the walks read of it -/
theorem EmAt.fn (h : EmAt w base X E rest) : w.cell? ⟨X.fp, 0, none⟩ = some (.pointer (some ⟨X.ep, 0, none⟩)) ∧ w.cell? ⟨X.fp, 1, none⟩ = some (.pointer (some X.ga)) ∧ w.cell? ⟨X.fp, 2, none⟩ = some (.int .i64 X.size) ∧ w.cell? ⟨X.fp, 3, none⟩ = some X.slv ∧ w.cell? ⟨X.fp, 4, none⟩ = some X.clv ∧ w.cell? ⟨X.fp, 5, none⟩ = some X.svv ∧ w.cell? ⟨X.fp, 6, none⟩ = some (.int .i64 X.res) ∧ w.cell? ⟨X.fp, 11, none⟩ = some (.bool X.defers) ∧ w.cell? ⟨X.fp, 12, none⟩ = some X.pv := by
 obtain ⟨cv, sv, zv, nv, Mc, J, L, lvs, _, hI⟩ := h
 have hb := hI.blk (i := 3) rfl
 exact ⟨hb.cell 0, hb.cell 1, hb.cell 2, hb.cell 3, hb.cell 4, hb.cell 5, hb.cell 6, hb.cell 11, hb.cell 12⟩
theorem EmAt.code (h : EmAt w base X E rest) : ∃ CA cc, w.cell? ⟨X.ep, 0, none⟩ = some (.slice CA E.code.length cc) := by
 obtain ⟨cv, sv, zv, nv, Mc, J, L, lvs, _, hI⟩ := h
 have hb := hI.blk (i := 0) rfl
 obtain ⟨CA, cc, hcv, _⟩ := own_any (hI.own (i := 1) rfl)
 subst hcv
 exact ⟨CA, cc, hb.cell 0⟩
theorem EmAt.size (h : EmAt w base X E rest) : base ≤ w.heap.size := by
 obtain ⟨cv, sv, zv, nv, Mc, J, L, lvs, _, hI⟩ := h
 have := (hI.at_ (i := 0) rfl).lt X.ep rfl
 omega
theorem EmAt.fpb (h : EmAt w base X E rest) : base ≤ X.fp ∧ X.fp < w.heap.size ∧ base ≤ X.ep ∧ X.ep < w.heap.size := by
 obtain ⟨cv, sv, zv, nv, Mc, J, L, lvs, _, hI⟩ := h
 have h1 := (hI.at_ (i := 0) rfl).lt X.ep rfl
 have h2 := (hI.at_ (i := 3) rfl).lt X.fp rfl
 exact ⟨h2.1, h2.2, h1.1, h1.2⟩
/-- an offset of a slot -/
theorem EmAt.slot (h : EmAt w base X E rest) {k : Nat} (hk : k < X.ns) : ∃ ad c, X.slv = .slice (some ad) X.ns c ∧ w.cell? (ad.add k) = some (.int .i64 (8 * (k : Int))) := by
 obtain ⟨cv, sv, zv, nv, Mc, J, L, lvs, _, hI⟩ := h
 have ho := hI.own (i := 8) rfl
 obtain ⟨A, c, hv, _, _, hR⟩ := own_any ho
 obtain ⟨ad, u, hA, _, hu, hc⟩ := hR.at_ hk
 subst hA
 refine ⟨ad, c, hv, ?_⟩
 rw [hc]
 unfold wordsL at hu
 rw [List.getElem?_map, List.getElem?_map, List.getElem?_range hk] at hu
 injection hu with hu
 rw [← hu]
 simp
theorem EmAt.cellOff (h : EmAt w base X E rest) {k : Nat} (hk : k < X.nc) : ∃ ad c, X.clv = .slice (some ad) X.nc c ∧ w.cell? (ad.add k) = some (.int .i64 (8 * ((X.ns + k : Nat) : Int))) := by
 obtain ⟨cv, sv, zv, nv, Mc, J, L, lvs, _, hI⟩ := h
 have ho := hI.own (i := 9) rfl
 obtain ⟨A, c, hv, _, _, hR⟩ := own_any ho
 obtain ⟨ad, u, hA, _, hu, hc⟩ := hR.at_ hk
 subst hA
 refine ⟨ad, c, hv, ?_⟩
 rw [hc]
 unfold wordsL at hu
 rw [List.getElem?_map, List.getElem?_map, List.getElem?_range hk] at hu
 injection hu with hu
 rw [← hu]
 simp
theorem put_em {A : Option Addr} {m c B : Nat} {ms : List MInstD} (h : EmAt w base X E rest) (hR : Reads w B 5 A m (ms.flatMap mcells)) (hm : ms.length = m) (hsz : E.sz + m ≤ 1099511627776) :
  Calls Tryd.prog 18 #[.pointer (some ⟨X.ep, 0, none⟩), .slice A m c] w fun e w' => e = .returned (.tuple #[]) ∧ EmAt w' base X (E.put ms) rest ∧ Below base w w' := by
 have hbase := h.size
 obtain ⟨cv, sv, zv, nv, Mc, J, L, lvs, h1, hI⟩ := h
 refine (put_raw (i := 0) (j := 1) (n := E.code.length) (code := E.code) (c := c) hI rfl rfl (by omega) hR (by unfold EmS.sz at hsz; omega) hbase).mono ?_
 rintro e w' ⟨he, ⟨cv', h2⟩, hb⟩
 refine ⟨he, ⟨cv', sv, zv, nv, Mc, J, L, lvs, h1, ?_⟩, hb⟩
 have hl : E.code.length + m = (E.code ++ ms).length := by rw [List.length_append, hm]
 rw [hl] at h2
 exact h2
end
end Go.Proofs.YtnfjjliiajaijaaDoor
namespace Go.Proofs.YtnfjjliiajaijaaDoor
open Go.RowKit

/-- what a call of the emitter's leaves -/
def EmGot (base : Nat) (X : EmX) (rest : List It) (w : World) (v : Value) (E : EmS) (e : Ending) (w' : World) : Prop := e = .returned v ∧ EmAt w' base X E rest ∧ Below base w w'
section
variable {w : World} {base : Nat} {X : EmX} {E : EmS} {rest : List It}
theorem store_em (h : EmAt w base X E rest) (off : Int) (r : Nat) (hsz : E.sz + 1 ≤ 1099511627776) :
  Calls Tryd.prog 66 #[.pointer (some ⟨X.fp, 0, none⟩), .int .i64 off, .int .i64 (r : Nat)] w fun e w' => EmGot base X rest w (.tuple #[]) (E.store off r) e w' := by
 obtain ⟨f0, _⟩ := h.fn
 have hbase := h.size
 obtain ⟨o, ho⟩ : ∃ o, w32 off = o := ⟨_, rfl⟩
 have how : IntKind.i32.wrap off = o := ho
 have hput := put_em (h.alloc (.cells #[.int .u8 5, .int .i64 0, .int .i64 14, .int .i64 (r : Nat), .int .i32 o] 71)) (ms := [⟨5, 0, 14, r, o⟩]) (c := 1) (Reads.newS _ rfl _ _ _ _ _ rfl rfl) rfl hsz
 have hb := (Below.refl base w).alloc hbase (.cells #[.int .u8 5, .int .i64 0, .int .i64 14, .int .i64 (r : Nat), .int .i32 o] 71)
 obtain ⟨H, Hput, Hb, Ho⟩ := hd4 h hput hb ho
 clear ho hb hput h
 go_enter Tryd.func66, Tryd.ntmps66
 go_wp2_with fail
 refine Hput.out.mono ?_
 rintro e w' ⟨rfl, hE, hb'⟩
 have hfin := Hb.out.trans hb'
 obtain ⟨HE, Hfin, Hb'⟩ := hd3 hE hfin hb'
 clear hb' hfin hE
 go_wp2_with fail
 go_end0
 refine ⟨rfl, ?_, Hfin.out⟩
 unfold EmS.store
 rw [Ho.out]
 exact HE.out
theorem read_em (h : EmAt w base X E rest) (p into : Nat) (hp : p < 16 + X.ns) (hsz : E.sz + 1 ≤ 1099511627776) (hns : X.ns ≤ 1048576) :
  Calls Tryd.prog 72 #[.pointer (some ⟨X.fp, 0, none⟩), .int .i64 (p : Nat), .int .i64 (into : Nat)] w fun e w' => EmGot base X rest w (.int .i64 (regOf p into : Nat)) (E.read p into) e w' := by
 by_cases h16 : p < 16
 ·have hpi : (p : Int) < 16 := by omega
  have h1 : regOf p into = p := by unfold regOf; rw [if_pos h16]
  have h2 : E.read p into = E := by unfold EmS.read; rw [if_pos h16]
  rw [h1, h2]
  obtain ⟨H, H1, H2⟩ := hd3 h h1 h2
  clear h2 h1 h
  go_enter Tryd.func72, Tryd.ntmps72
  go_wp2_with fail
  go_ret
  exact ⟨rfl, H.out, Below.refl _ _⟩
 ·have hpi : ¬ (p : Int) < 16 := by omega
  obtain ⟨k, hk⟩ : ∃ k, p = 16 + k := ⟨p - 16, by omega⟩
  have h1 : regOf p into = into := by unfold regOf; rw [if_neg h16]
  have h2 : E.read p into = E.put [⟨4, into, 14, 0, 8 * (k : Int)⟩] := by
   unfold EmS.read slotOf w32
   rw [if_neg h16, IntKind.wrap_i32, hk]
   have : ((8 * (((16 + k : Nat) : Int) - 16) + 2147483648) % 4294967296 - 2147483648) = 8 * (k : Int) := by omega
   rw [this]
  rw [h1, h2]
  obtain ⟨f0, _, _, f3, _⟩ := h.fn
  obtain ⟨ad, c, hslv, hsc⟩ := h.slot (k := k) (by omega)
  rw [hslv] at f3
  have hbase := h.size
  have hadl : ad.block < w.heap.size := World.block_lt_of_cell? w (ad.add k) hsc |> fun hh => by rw [block_of_add] at hh; exact hh
  have hk0 : (p : Int) - 16 = k := by omega
  have hkl : (k : Int) < X.ns := by omega
  have hk00 : (0 : Int) ≤ k := by omega
  have hkw : IntKind.i64.wrap (k : Int) = k := by rw [IntKind.wrap_i64]; omega
  have hkw8 : IntKind.i32.wrap (8 * (k : Int)) = 8 * k := by rw [IntKind.wrap_i32]; omega
  have hput := put_em ((h.drew).alloc (.cells #[.int .u8 4, .int .i64 (into : Nat), .int .i64 14, .int .i64 0, .int .i32 (8 * (k : Int))] 71)) (ms := [⟨4, into, 14, 0, 8 * (k : Int)⟩]) (c := 1) (Reads.newS _ rfl _ _ _ _ _ rfl rfl) rfl hsz
  have hb := ((Below.refl base w).drew).alloc hbase (.cells #[.int .u8 4, .int .i64 (into : Nat), .int .i64 14, .int .i64 0, .int .i32 (8 * (k : Int))] 71)
  have hfpl := h.fpb.2.1
  obtain ⟨H, H1, H2, Hput, Hb, Hslv, Hk⟩ := hd7 h h1 h2 hput hb hslv hk
  clear hk hslv hb hput h2 h1 h
  go_enter Tryd.func72, Tryd.ntmps72
  go_upto_region 3 with fail
  refine wp_region_late (S := fun W => W.cell? ⟨X.fp, 0, none⟩ = some (.pointer (some ⟨X.ep, 0, none⟩)) ∧ W.cell? ⟨X.fp, 3, none⟩ = some (.slice (some ad) X.ns c) ∧ W.cell? (ad.add k) = some (.int .i64 (8 * (k : Int)))) #[false, false, false, false, false, false, false, false, false, false, false, false, false, false, false, false, false, true] (by kernel_rfl) ⟨f0, f3, hsc⟩ (fun hHeld => ?_)
  refine wpAnyL_tk 0 ?_
  refine wpAnyL_tk 1 ?_
  refine wpAnyL_tk 2 ?_
  refine wpAnyL_tk 3 ?_
  refine wpAnyL_tk 4 ?_
  refine wpAnyL_tk 5 ?_
  refine wpAnyL_tk 6 ?_
  refine wpAnyL_tk 7 ?_
  refine wpAnyL_tk 8 ?_
  refine wpAnyL_tk 9 ?_
  refine wpAnyL_tk 10 ?_
  refine wpAnyL_tk 11 ?_
  refine wpAnyL_tk 12 ?_
  refine wpAnyL_tk 13 ?_
  refine wpAnyL_tk 14 ?_
  refine wpAnyL_tk 15 ?_
  refine wpAnyL_ready (rs := [16]) (by kernel_rfl) (by simp) ?_
  refine AllReadyL.cons rfl (fun K hK => ?_) AllReadyL.nil
  go_simp
  refine hK.out _ _ ⟨(World.cell?_alloc_lt _ _ ⟨X.fp, 0, none⟩ hfpl).trans f0, (World.cell?_alloc_lt _ _ ⟨X.fp, 3, none⟩ hfpl).trans f3, (World.cell?_alloc_lt _ _ (ad.add k) (by rw [block_of_add]; exact hadl)).trans hsc⟩ (fun hHeld2 => ?_)
  clear hK K hHeld
  try simp only [Act.put, List.getElem_toArray, List.getElem_cons_zero, List.getElem_cons_succ, List.setIfInBounds_toArray, List.set_cons_zero, List.set_cons_succ]
  refine wpAnyL_ready (rs := [17]) (by kernel_rfl) (by simp) ?_
  refine AllReadyL.last rfl (by kernel_rfl) (fun K hK => ?_) AllReadyL.nil
  go_simp
  refine Hput.out.mono ?_
  rintro e w2 ⟨rfl, hE2, hb2⟩
  refine hK.out _ _ ?_
  clear hK K
  try simp only [Act.put, List.getElem_toArray, List.getElem_cons_zero, List.getElem_cons_succ, List.setIfInBounds_toArray, List.set_cons_zero, List.set_cons_succ]
  refine wpAnyL_done (by kernel_rfl) ?_ _
  have hfin := Hb.out.trans hb2
  obtain ⟨HE2, Hb2, Hfin⟩ := hd3 hE2 hb2 hfin
  clear hfin hb2 hE2
  go_wp2_with fail
  go_ret
  exact ⟨rfl, HE2.out, Hfin.out⟩
theorem done_em (h : EmAt w base X E rest) (p r : Nat) (hp : p < 16 + X.ns) (hsz : E.sz + 1 ≤ 1099511627776) (hns : X.ns ≤ 1048576) :
  Calls Tryd.prog 70 #[.pointer (some ⟨X.fp, 0, none⟩), .int .i64 (p : Nat), .int .i64 (r : Nat)] w fun e w' => EmGot base X rest w (.tuple #[]) (E.done p r) e w' := by
 by_cases h16 : p < 16
 ·have hpi : ¬ (16 : Int) ≤ p := by omega
  have h2 : E.done p r = E := by unfold EmS.done; rw [if_pos h16]
  rw [h2]
  obtain ⟨H, H2⟩ := hd2 h h2
  clear h2 h
  go_enter Tryd.func70, Tryd.ntmps70
  go_wp2_with fail
  go_end0
  exact ⟨rfl, H.out, Below.refl _ _⟩
 ·have hpi : (16 : Int) ≤ p := by omega
  obtain ⟨k, hk⟩ : ∃ k, p = 16 + k := ⟨p - 16, by omega⟩
  have h2 : E.done p r = E.store (8 * (k : Int)) r := by
   unfold EmS.done slotOf
   rw [if_neg h16]
   congr 1; omega
  rw [h2]
  obtain ⟨f0, _, _, f3, _⟩ := h.fn
  obtain ⟨ad, c, hslv, hsc⟩ := h.slot (k := k) (by omega)
  rw [hslv] at f3
  have hk0 : (p : Int) - 16 = k := by omega
  have hkl : (k : Int) < X.ns := by omega
  have hst := store_em h (8 * (k : Int)) r hsz
  obtain ⟨H, H2, Hslv, Hk, Hst⟩ := hd5 h h2 hslv hk hst
  clear hst hk hslv h2 h
  go_enter Tryd.func70, Tryd.ntmps70
  go_wp2_with fail
  refine Hst.out.mono ?_
  rintro e w' ⟨rfl, hE, hb⟩
  obtain ⟨HE, Hb⟩ := hd2 hE hb
  clear hb hE
  go_wp2_with fail
  go_end0
  exact ⟨rfl, HE.out, Hb.out⟩
theorem write_em (fp : Nat) (p : Nat) (w : World) :
  Calls Tryd.prog 69 #[.pointer (some ⟨fp, 0, none⟩), .int .i64 (p : Nat)] w fun e w' => e = .returned (.int .i64 (regOf p 13 : Nat)) ∧ w = w' := by
 by_cases h16 : p < 16
 ·have hpi : (p : Int) < 16 := by omega
  have h1 : regOf p 13 = p := by unfold regOf; rw [if_pos h16]
  rw [h1]
  go_enter Tryd.func69, Tryd.ntmps69
  go_wp2_with fail
  go_ret
  exact ⟨rfl, rfl⟩
 ·have hpi : ¬ (p : Int) < 16 := by omega
  have h1 : regOf p 13 = 13 := by unfold regOf; rw [if_neg h16]
  rw [h1]
  go_enter Tryd.func69, Tryd.ntmps69
  go_wp2_with fail
  go_ret
  exact ⟨rfl, rfl⟩
/-- an entry of the labels -/
theorem EmAt.putLabel (h : EmAt w base X E rest) (label : Nat) (hl : label < 4611686018427387904) (hsz : E.sz + 1 ≤ 1099511627776) : ∃ L w1, w.cell? ⟨X.fp, 8, none⟩ = some (.map (some L)) ∧ (Instr.mapUpdate 64 (.map (some L)) (.int .i64 (label : Nat)) (.int .i64 (E.code.length : Nat))).run Tryd.prog w = .ok () w1 ∧ EmAt w1 base X (E.mark label) rest ∧ Below base w w1 := by
 obtain ⟨cv, sv, zv, nv, Mc, J, L, lvs, h1, hI⟩ := h
 have hb := hI.blk (i := 3) rfl
 have hm := hI.imap (i := 5) rfl
 have hlt := (hI.at_ (i := 5) rfl).lt L rfl
 unfold EmS.sz at hsz
 obtain ⟨w1, hrun, hm1, hg⟩ := hm.put label E.code.length (by omega) (by omega) (by unfold maxLen; omega)
 refine ⟨L, w1, hb.cell 8, hrun, ⟨cv, sv, zv, nv, Mc, J, L, lvs, h1, hI.put (i := 5) rfl hm1 hg⟩, (Below.refl base w).grown hg (by omega) fun b e => by injection e with e; omega⟩
theorem EmAt.putJump (h : EmAt w base X E rest) (label : Nat) (hl : label < 4611686018427387904) (hsz : E.sz + 1 ≤ 1099511627776) : ∃ J w1, w.cell? ⟨X.fp, 7, none⟩ = some (.map (some J)) ∧ (Instr.mapUpdate 64 (.map (some J)) (.int .i64 (E.code.length : Nat)) (.int .i64 (label : Nat))).run Tryd.prog w = .ok () w1 ∧ EmAt w1 base X { E with jumps := upd E.jumps E.code.length label, jn := E.jn + 1 } rest ∧ Below base w w1 := by
 obtain ⟨cv, sv, zv, nv, Mc, J, L, lvs, h1, hI⟩ := h
 have hb := hI.blk (i := 3) rfl
 have hm := hI.imap (i := 4) rfl
 have hlt := (hI.at_ (i := 4) rfl).lt J rfl
 unfold EmS.sz at hsz
 obtain ⟨w1, hrun, hm1, hg⟩ := hm.put E.code.length label (by omega) (by omega) (by unfold maxLen; omega)
 refine ⟨J, w1, hb.cell 7, hrun, ⟨cv, sv, zv, nv, Mc, J, L, lvs, h1, hI.put (i := 4) rfl hm1 hg⟩, (Below.refl base w).grown hg (by omega) fun b e => by injection e with e; omega⟩
theorem mark_em (h : EmAt w base X E rest) (label : Nat) (hl : label < 4611686018427387904) (hsz : E.sz + 1 ≤ 1099511627776) :
  Calls Tryd.prog 68 #[.pointer (some ⟨X.fp, 0, none⟩), .int .i64 (label : Nat)] w fun e w' => EmGot base X rest w (.tuple #[]) (E.mark label) e w' := by
 obtain ⟨L, w1, f8, hrun, hE1, hb1⟩ := h.drew.putLabel label hl hsz
 obtain ⟨f0, _⟩ := h.fn
 obtain ⟨CA, cc, k0⟩ := h.code
 have hb1 := Below.of_drew hb1
 have f8 : w.cell? ⟨X.fp, 8, none⟩ = some (.map (some L)) := f8
 obtain ⟨H, HE1, Hb1⟩ := hd3 h hE1 hb1
 clear hb1 hE1 h
 go_enter Tryd.func68, Tryd.ntmps68
 go_upto_region 0 with fail
 refine wp_region_late (S := fun W => W.cell? ⟨X.fp, 0, none⟩ = some (.pointer (some ⟨X.ep, 0, none⟩)) ∧ W.cell? ⟨X.fp, 8, none⟩ = some (.map (some L)) ∧ W.cell? ⟨X.ep, 0, none⟩ = some (.slice CA E.code.length cc)) #[false, false, false, false, false, false, false, false, false, false, false, false, false, true] (by kernel_rfl) ⟨f0, f8, k0⟩ (fun hHeld => ?_)
 refine wpAnyL_tk 0 ?_
 refine wpAnyL_tk 1 ?_
 refine wpAnyL_tk 2 ?_
 refine wpAnyL_tk 3 ?_
 refine wpAnyL_tk 4 ?_
 refine wpAnyL_tk 5 ?_
 refine wpAnyL_tk 6 ?_
 refine wpAnyL_tk 7 ?_
 refine wpAnyL_tk 8 ?_
 refine wpAnyL_tk 9 ?_
 refine wpAnyL_tk 10 ?_
 refine wpAnyL_tk 11 ?_
 refine wpAnyL_tk 12 ?_
 refine wpAnyL_ready (rs := [13]) (by kernel_rfl) (by simp) ?_
 refine AllReadyL.last rfl (by kernel_rfl) (fun K hK => ?_) AllReadyL.nil
 go_simp
 refine hK.out _ _ ?_
 clear hK K
 try simp only [Act.put, List.getElem_toArray, List.getElem_cons_zero, List.getElem_cons_succ, List.setIfInBounds_toArray, List.set_cons_zero, List.set_cons_succ]
 refine wpAnyL_done (by kernel_rfl) ?_ _
 go_wp2_with fail
 go_end0
 exact ⟨rfl, HE1.out, Hb1.out⟩
theorem jump_em (h : EmAt w base X E rest) (op a label : Nat) (hop : op ≤ 255) (hl : label < 4611686018427387904) (hsz : E.sz + 2 ≤ 1099511627776) :
  Calls Tryd.prog 75 #[.pointer (some ⟨X.fp, 0, none⟩), .int .u8 (op : Nat), .int .i64 (a : Nat), .int .i64 (label : Nat)] w fun e w' => EmGot base X rest w (.tuple #[]) (E.jump op a label) e w' := by
 obtain ⟨J, w1, f7, hrun, hE1, hb1⟩ := h.drew.putJump label hl (by omega)
 obtain ⟨f0, _⟩ := h.fn
 obtain ⟨CA, cc, k0⟩ := h.code
 have hb1 := Below.of_drew hb1
 have f7 : w.cell? ⟨X.fp, 7, none⟩ = some (.map (some J)) := f7
 obtain ⟨g0, _⟩ := hE1.fn
 have hbase1 := hE1.size
 have hput := put_em (hE1.alloc (.cells #[.int .u8 (op : Nat), .int .i64 0, .int .i64 (a : Nat), .int .i64 0, .int .i32 0] 71)) (ms := [⟨op, 0, a, 0, 0⟩]) (c := 1) (Reads.newS _ rfl _ _ _ _ _ rfl rfl) rfl (by unfold EmS.sz at hsz ⊢; simp only; omega)
 have hb2 := hb1.alloc hbase1 (.cells #[.int .u8 (op : Nat), .int .i64 0, .int .i64 (a : Nat), .int .i64 0, .int .i32 0] 71)
 obtain ⟨H, HE1, Hb1, Hput, Hb2⟩ := hd5 h hE1 hb1 hput hb2
 clear hb2 hput hb1 hE1 h
 go_enter Tryd.func75, Tryd.ntmps75
 go_upto_region 0 with fail
 refine wp_region_late (S := fun W => W.cell? ⟨X.fp, 0, none⟩ = some (.pointer (some ⟨X.ep, 0, none⟩)) ∧ W.cell? ⟨X.fp, 7, none⟩ = some (.map (some J)) ∧ W.cell? ⟨X.ep, 0, none⟩ = some (.slice CA E.code.length cc)) #[false, false, false, false, false, false, false, false, false, false, false, false, false, true] (by kernel_rfl) ⟨f0, f7, k0⟩ (fun hHeld => ?_)
 refine wpAnyL_tk 0 ?_
 refine wpAnyL_tk 1 ?_
 refine wpAnyL_tk 2 ?_
 refine wpAnyL_tk 3 ?_
 refine wpAnyL_tk 4 ?_
 refine wpAnyL_tk 5 ?_
 refine wpAnyL_tk 6 ?_
 refine wpAnyL_tk 7 ?_
 refine wpAnyL_tk 8 ?_
 refine wpAnyL_tk 9 ?_
 refine wpAnyL_tk 10 ?_
 refine wpAnyL_tk 11 ?_
 refine wpAnyL_tk 12 ?_
 refine wpAnyL_ready (rs := [13]) (by kernel_rfl) (by simp) ?_
 refine AllReadyL.last rfl (by kernel_rfl) (fun K hK => ?_) AllReadyL.nil
 go_simp
 refine hK.out _ _ ?_
 clear hK K
 try simp only [Act.put, List.getElem_toArray, List.getElem_cons_zero, List.getElem_cons_succ, List.setIfInBounds_toArray, List.set_cons_zero, List.set_cons_succ]
 refine wpAnyL_done (by kernel_rfl) ?_ _
 clear f0 f7 k0 hHeld
 go_wp2_with fail
 refine Hput.out.mono ?_
 rintro e w' ⟨rfl, hE, hb⟩
 have hfin := Hb2.out.trans hb
 obtain ⟨HE, Hb, Hfin⟩ := hd3 hE hb hfin
 clear hfin hb hE
 go_wp2_with fail
 go_end0
 exact ⟨rfl, HE.out, Hfin.out⟩
end
end Go.Proofs.YtnfjjliiajaijaaDoor
namespace Go.Proofs.YtnfjjliiajaijaaDoor
open Go.RowKit
section
variable {w : World} {base : Nat} {X : EmX} {E : EmS} {rest : List It}
theorem lo32_bd (v : Int) : -2147483648 ≤ lo32 v ∧ lo32 v ≤ 2147483647 := by
 unfold lo32
 rw [IntKind.wrap_i32]; omega
theorem number_em (h : EmAt w base X E rest) (r : Nat) (v : Int) (hv : U64 v) (hsz : E.sz + 2 ≤ 1099511627776) :
  Calls Tryd.prog 67 #[.pointer (some ⟨X.ep, 0, none⟩), .int .i64 (r : Nat), .int .u64 v] w fun e w' => EmGot base X rest w (.tuple #[]) (E.number r v) e w' := by
 obtain ⟨o, ho⟩ : ∃ o, lo32 v = o := ⟨_, rfl⟩
 obtain ⟨ob0, ob1⟩ := lo32_bd v
 rw [ho] at ob0 ob1
 have how : wrap32 (v % 4294967296) = o := by rw [← ho]; unfold lo32; rw [IntKind.wrap_i32, IntKind.wrap_u32]; unfold wrap32; rfl
 have hbase := h.size
 unfold U64 at hv
 obtain ⟨hv0, hv1⟩ := hv
 have hput := put_em (h.alloc (.cells #[.int .u8 1, .int .i64 (r : Nat), .int .i64 0, .int .i64 0, .int .i32 o] 71)) (ms := [⟨1, r, 0, 0, o⟩]) (c := 1) (Reads.newS _ rfl _ _ _ _ _ rfl rfl) rfl (by omega)
 have hb := (Below.refl base w).alloc hbase (.cells #[.int .u8 1, .int .i64 (r : Nat), .int .i64 0, .int .i64 0, .int .i32 o] 71)
 by_cases hw : wideN v = true
 ·have hN : E.number r v = (E.put [⟨1, r, 0, 0, o⟩]).put [⟨2, r, 0, 0, lo32 (v / 4294967296)⟩] := by
   unfold EmS.number; rw [if_pos hw, ho]
  rw [hN]
  unfold wideN at hw
  rw [ho] at hw
  have hne : (IntKind.u64.wrap o == v) = false := by simpa using hw
  obtain ⟨o2, ho2⟩ : ∃ o2, lo32 (v / 4294967296) = o2 := ⟨_, rfl⟩
  have how2 : wrap32 (v / 4294967296) = o2 := by
   have e : IntKind.u32.wrap (v / 4294967296) = v / 4294967296 := by rw [IntKind.wrap_u32]; omega
   rw [← ho2]; unfold lo32; rw [e, IntKind.wrap_i32]; unfold wrap32; rfl
  rw [ho2]
  have hd0 : 0 ≤ v / 4294967296 := by omega
  have hd1 : v / 4294967296 ≤ 4294967295 := by omega
  obtain ⟨H, Hput, Hb, Ho, HN, Hw, Ho2⟩ := hd7 h hput hb ho hN hw ho2
  clear ho2 hw hN ho hb hput h
  go_enter Tryd.func67, Tryd.ntmps67
  go_wp2_with fail
  refine Hput.out.mono ?_
  rintro e w1 ⟨rfl, hE1, hb1⟩
  have hb1' := Hb.out.trans hb1
  have hbase1 := hE1.size
  have hput2 := put_em (hE1.alloc (.cells #[.int .u8 2, .int .i64 (r : Nat), .int .i64 0, .int .i64 0, .int .i32 o2] 71)) (ms := [⟨2, r, 0, 0, o2⟩]) (c := 1) (Reads.newS _ rfl _ _ _ _ _ rfl rfl) rfl (by unfold EmS.sz EmS.put at *; simp only [List.length_append, List.length_singleton]; omega)
  have hb2 := hb1'.alloc hbase1 (.cells #[.int .u8 2, .int .i64 (r : Nat), .int .i64 0, .int .i64 0, .int .i32 o2] 71)
  obtain ⟨HE1, Hb1, Hb1', Hput2, Hb2⟩ := hd5 hE1 hb1 hb1' hput2 hb2
  clear hb2 hput2 hb1' hb1 hE1
  go_wp2_with fail
  refine Hput2.out.mono ?_
  rintro e w2 ⟨rfl, hE2, hb3⟩
  have hb3' := Hb2.out.trans hb3
  obtain ⟨HE2, Hb3, Hb3'⟩ := hd3 hE2 hb3 hb3'
  clear hb3' hb3 hE2
  go_wp2_with fail
  go_end0
  exact ⟨rfl, HE2.out, Hb3'.out⟩
 ·have hN : E.number r v = E.put [⟨1, r, 0, 0, o⟩] := by
   unfold EmS.number; rw [if_neg hw, ho]
  rw [hN]
  unfold wideN at hw
  rw [ho] at hw
  have hne : (IntKind.u64.wrap o == v) = true := by simpa using hw
  obtain ⟨H, Hput, Hb, Ho, HN, Hw⟩ := hd6 h hput hb ho hN hw
  clear hw hN ho hb hput h
  go_enter Tryd.func67, Tryd.ntmps67
  go_wp2_with fail
  refine Hput.out.mono ?_
  rintro e w1 ⟨rfl, hE1, hb1⟩
  have hb1' := Hb.out.trans hb1
  obtain ⟨HE1, Hb1, Hb1'⟩ := hd3 hE1 hb1 hb1'
  clear hb1' hb1 hE1
  go_wp2_with fail
  go_end0
  exact ⟨rfl, HE1.out, Hb1'.out⟩
/-- one more thing lies beside the emitter -/
theorem EmAt.extend {x : It} {w' : World} (h : EmAt w base X E rest) (hg : w.grownBy w' none) (hx : x.At w' base) (hb : ∀ b, x.block = some b → w.heap.size ≤ b) : EmAt w' base X E (x :: rest) := by
 obtain ⟨cv, sv, zv, nv, Mc, J, L, lvs, h1, hI⟩ := h
 refine ⟨cv, sv, zv, nv, Mc, J, L, lvs, h1, (hI.new hg hx hb).perm ?_⟩
 rw [← List.append_assoc, ← List.append_assoc]
 exact List.perm_middle.symm
theorem EmAt.box (h : EmAt w base X E rest) (t : TypeId) (cs : Array Value) : EmAt (w.alloc (.cells cs t)) base X E (.blk w.heap.size t cs :: rest) :=
 h.extend (World.grownBy_alloc w _ none) ⟨h.size, Blk.new w t cs⟩ fun b e => by injection e with e; omega
theorem EmAt.drop {x : It} (h : EmAt w base X E (x :: rest)) : EmAt w base X E rest := by
 obtain ⟨cv, sv, zv, nv, Mc, J, L, lvs, h1, hI⟩ := h
 refine ⟨cv, sv, zv, nv, Mc, J, L, lvs, h1, hI.sub ?_⟩
 exact (List.Sublist.refl _).append ((List.Sublist.refl _).append (List.sublist_cons_self _ _))
theorem EmAt.first {x : It} (h : EmAt w base X E (x :: rest)) : x.At w base := by
 obtain ⟨cv, sv, zv, nv, Mc, J, L, lvs, h1, hI⟩ := h
 exact hI.each x (List.mem_append_right _ (List.mem_append_right _ List.mem_cons_self))
theorem EmAt.blk {g : Nat} {t : TypeId} {cs : Array Value} (h : EmAt w base X E (.blk g t cs :: rest)) : Blk w g t cs := (h.first (x := .blk g t cs)).2
theorem node_cell {w : World} {N : Nat} {t : TypeId} {NC : Array Value} {x : NodeD} {av : Value} (hB : Blk w N t NC) (hNC : NC = (ncells x av).toArray) (j : Nat) {u : Value} (hu : (ncells x av)[j]? = some u) : w.cell? ⟨N, j, none⟩ = some u := by
 rw [hB.cell j, hNC, List.getElem?_toArray, hu]
def EmS.move (E : EmS) (d a : Nat) : EmS := if d < 16 ∧ a < 16 then E.put [⟨3, d, a, 0, 0⟩] else if d < 16 then E.read a d else (E.read a 13).done d (regOf a 13)
theorem sz_put (E : EmS) (l : List MInstD) : (E.put l).sz = E.sz + l.length := by unfold EmS.sz EmS.put; simp only [List.length_append]; omega
theorem sz_read (E : EmS) (p i : Nat) : (E.read p i).sz ≤ E.sz + 1 := by
 unfold EmS.read
 split
 ·omega
 ·rw [sz_put]; simp
theorem sz_store (E : EmS) (o : Int) (r : Nat) : (E.store o r).sz = E.sz + 1 := by unfold EmS.store; rw [sz_put]; rfl
theorem sz_done (E : EmS) (p r : Nat) : (E.done p r).sz ≤ E.sz + 1 := by
 unfold EmS.done
 split
 ·omega
 ·rw [sz_store]; omega
theorem sz_jump (E : EmS) (o a l : Nat) : (E.jump o a l).sz = E.sz + 2 := by unfold EmS.sz EmS.jump; simp only [List.length_append, List.length_singleton]; omega
theorem sz_mark (E : EmS) (l : Nat) : (E.mark l).sz = E.sz + 1 := by unfold EmS.sz EmS.mark; simp only; omega
theorem sz_number (E : EmS) (r : Nat) (v : Int) : (E.number r v).sz ≤ E.sz + 2 := by
 unfold EmS.number
 split
 ·rw [sz_put, sz_put]; simp
 ·rw [sz_put]; simp
theorem move_em (h : EmAt w base X E rest) (x : NodeD) (av : Value) (d a : Nat) (hd : x.d = (d : Int)) (ha : x.a = (a : Int)) (hdn : d < 16 + X.ns) (han : a < 16 + X.ns) (hns : X.ns ≤ 1048576) (hsz : E.sz + 2 ≤ 1099511627776) :
  Calls Tryd.prog 71 #[.pointer (some ⟨X.fp, 0, none⟩), .agg (ncells x av).toArray] w fun e w' => EmGot base X rest w (.tuple #[]) (E.move d a) e w' := by
 obtain ⟨NC, hNC⟩ : ∃ NC : Array Value, NC = (ncells x av).toArray := ⟨_, rfl⟩
 rw [← hNC]
 have hNS : NC.size = 12 := by rw [hNC]; rfl
 have hbx := h.box 55 NC
 have hb := (Below.refl base w).alloc h.size (.cells NC 55)
 obtain ⟨N, hN⟩ : ∃ N, N = w.heap.size := ⟨_, rfl⟩
 obtain ⟨w1, hw1⟩ : ∃ w1, w1 = w.alloc (.cells NC 55) := ⟨_, rfl⟩
 rw [← hw1, ← hN] at hbx
 rw [← hw1] at hb
 have hB := hbx.blk
 have n2 := hB.cell 2
 have n4 := hB.cell 4
 rw [hNC] at n2 n4
 replace n2 : w1.cell? ⟨N, 2, none⟩ = some (.int .i64 (d : Nat)) := by rw [n2]; show some (Value.int .i64 x.d) = _; rw [hd]
 replace n4 : w1.cell? ⟨N, 4, none⟩ = some (.int .i64 (a : Nat)) := by rw [n4]; show some (Value.int .i64 x.a) = _; rw [ha]
 obtain ⟨f0, _⟩ := hbx.fn
 have hfpl := hbx.fpb.2.1
 have hNl := hB.lt
 obtain ⟨R, hR⟩ : ∃ R, E.move d a = R := ⟨_, rfl⟩
 rw [hR]
 unfold EmS.move at hR
 by_cases hda : d < 16 ∧ a < 16
 ·rw [if_pos hda] at hR
  have hd16 : (d : Int) < 16 := by omega
  have ha16 : (a : Int) < 16 := by omega
  have hput := put_em ((hbx.drew).alloc (.cells #[.int .u8 3, .int .i64 (d : Nat), .int .i64 (a : Nat), .int .i64 0, .int .i32 0] 71)) (ms := [⟨3, d, a, 0, 0⟩]) (c := 1) (Reads.newS _ rfl _ _ _ _ _ rfl rfl) rfl (by omega)
  have hb2 := (hb.drew).alloc hbx.size (.cells #[.int .u8 3, .int .i64 (d : Nat), .int .i64 (a : Nat), .int .i64 0, .int .i32 0] 71)
  obtain ⟨H, Hbx, Hb, HN, Hw1, HB, HNC, HR⟩ := hd8 h hbx hb hN hw1 hB hNC hR
  obtain ⟨Hda, Hput, Hb2⟩ := hd3 hda hput hb2
  clear hb2 hput hda hR hNC hB hw1 hN hb hbx h
  go_enter Tryd.func71, Tryd.ntmps71
  go_upto_region 1 with fail
  rw [← Hw1.out, ← HN.out]
  go_upto_region 2 with fail
  refine wp_region_late (S := fun W => W.cell? ⟨X.fp, 0, none⟩ = some (.pointer (some ⟨X.ep, 0, none⟩)) ∧ W.cell? ⟨N, 2, none⟩ = some (.int .i64 (d : Nat)) ∧ W.cell? ⟨N, 4, none⟩ = some (.int .i64 (a : Nat))) #[false, false, false, false, false, false, false, false, false, false, true] (by kernel_rfl) ⟨f0, n2, n4⟩ (fun hHeld => ?_)
  refine wpAnyL_tk 0 ?_
  refine wpAnyL_tk 1 ?_
  refine wpAnyL_tk 2 ?_
  refine wpAnyL_tk 3 ?_
  refine wpAnyL_tk 4 ?_
  refine wpAnyL_tk 5 ?_
  refine wpAnyL_tk 6 ?_
  refine wpAnyL_tk 7 ?_
  refine wpAnyL_tk 8 ?_
  refine wpAnyL_ready (rs := [9]) (by kernel_rfl) (by simp) ?_
  refine AllReadyL.cons rfl (fun K hK => ?_) AllReadyL.nil
  go_simp
  refine hK.out _ _ ⟨(World.cell?_alloc_lt _ _ ⟨X.fp, 0, none⟩ hfpl).trans f0, (World.cell?_alloc_lt _ _ ⟨N, 2, none⟩ hNl).trans n2, (World.cell?_alloc_lt _ _ ⟨N, 4, none⟩ hNl).trans n4⟩ (fun hHeld2 => ?_)
  clear hK K hHeld
  try simp only [Act.put, List.getElem_toArray, List.getElem_cons_zero, List.getElem_cons_succ, List.setIfInBounds_toArray, List.set_cons_zero, List.set_cons_succ]
  refine wpAnyL_ready (rs := [10]) (by kernel_rfl) (by simp) ?_
  refine AllReadyL.last rfl (by kernel_rfl) (fun K hK => ?_) AllReadyL.nil
  go_simp
  refine Hput.out.mono ?_
  rintro e w2 ⟨rfl, hE2, hb3⟩
  refine hK.out _ _ ?_
  clear hK K
  try simp only [Act.put, List.getElem_toArray, List.getElem_cons_zero, List.getElem_cons_succ, List.setIfInBounds_toArray, List.set_cons_zero, List.set_cons_succ]
  refine wpAnyL_done (by kernel_rfl) ?_ _
  have hfin := Hb2.out.trans hb3
  have hE3 := hE2.drop
  rw [HR.out] at hE3
  obtain ⟨HE2, Hb3, Hfin, HE3⟩ := hd4 hE2 hb3 hfin hE3
  clear hE3 hfin hb3 hE2
  go_wp2_with fail
  go_end0
  exact ⟨rfl, HE3.out, Hfin.out⟩
 ·rw [if_neg hda] at hR
  by_cases hd16 : d < 16
  ·rw [if_pos hd16] at hR
   have hdi : (d : Int) < 16 := by omega
   have hai : ¬ (a : Int) < 16 := by omega
   have hrd := read_em hbx a d han (by omega) hns
   have hrg : regOf a d = d := by unfold regOf; rw [if_neg (by omega)]
   obtain ⟨H, Hbx, Hb, HN, Hw1, HB, HNC, HR⟩ := hd8 h hbx hb hN hw1 hB hNC hR
   obtain ⟨Hda, Hrd, Hrg⟩ := hd3 hda hrd hrg
   clear hrg hrd hda hR hNC hB hw1 hN hb hbx h
   go_enter Tryd.func71, Tryd.ntmps71
   go_upto_region 1 with fail
   rw [← Hw1.out, ← HN.out]
   go_wp2_with fail
   refine Hrd.out.mono ?_
   rintro e w2 ⟨rfl, hE2, hb3⟩
   have hfin := Hb.out.trans hb3
   have hE3 := hE2.drop
   rw [HR.out] at hE3
   obtain ⟨HE2, Hb3, Hfin, HE3⟩ := hd4 hE2 hb3 hfin hE3
   clear hE3 hfin hb3 hE2
   go_wp2_with fail
   go_end0
   exact ⟨rfl, HE3.out, Hfin.out⟩
  ·rw [if_neg hd16] at hR
   have hdi : ¬ (d : Int) < 16 := by omega
   have hrd := read_em hbx.drew a 13 han (by omega) hns
   obtain ⟨H, Hbx, Hb, HN, Hw1, HB, HNC, HR⟩ := hd8 h hbx hb hN hw1 hB hNC hR
   obtain ⟨Hda, Hrd⟩ := hd2 hda hrd
   clear hrd hda hR hNC hB hw1 hN hb hbx h
   go_enter Tryd.func71, Tryd.ntmps71
   go_upto_region 1 with fail
   rw [← Hw1.out, ← HN.out]
   go_upto_region 5 with fail
   refine wp_region_late (S := fun W => W.cell? ⟨N, 2, none⟩ = some (.int .i64 (d : Nat)) ∧ W.cell? ⟨N, 4, none⟩ = some (.int .i64 (a : Nat))) #[false, false, false, false, false, false, false, true] (by kernel_rfl) ⟨n2, n4⟩ (fun hHeld => ?_)
   refine wpAnyL_tk 0 ?_
   refine wpAnyL_tk 1 ?_
   refine wpAnyL_tk 2 ?_
   refine wpAnyL_tk 3 ?_
   refine wpAnyL_tk 4 ?_
   refine wpAnyL_tk 5 ?_
   refine wpAnyL_ready (rs := [6]) (by kernel_rfl) (by simp) ?_
   refine AllReadyL.cons rfl (fun K hK => ?_) AllReadyL.nil
   go_simp
   refine Hrd.out.mono ?_
   rintro e w2 ⟨rfl, hE2, hb3⟩
   have m2 := node_cell hE2.blk HNC.out 2 (u := .int .i64 (d : Nat)) (by show some (Value.int .i64 x.d) = _; rw [hd])
   have m4 := node_cell hE2.blk HNC.out 4 (u := .int .i64 (a : Nat)) (by show some (Value.int .i64 x.a) = _; rw [ha])
   have hdn2 := done_em hE2 d (regOf a 13) hdn (by have := sz_read E a 13; omega) hns
   obtain ⟨HE2, Hdn2⟩ := hd2 hE2 hdn2
   clear hdn2 hE2
   refine hK.out _ _ ⟨m2, m4⟩ (fun hHeld2 => ?_)
   clear hK K hHeld
   try simp only [Act.put, List.getElem_toArray, List.getElem_cons_zero, List.getElem_cons_succ, List.setIfInBounds_toArray, List.set_cons_zero, List.set_cons_succ]
   refine wpAnyL_ready (rs := [7]) (by kernel_rfl) (by simp) ?_
   refine AllReadyL.last rfl (by kernel_rfl) (fun K hK => ?_) AllReadyL.nil
   go_simp
   refine Hdn2.out.mono ?_
   rintro e w3 ⟨rfl, hE3, hb4⟩
   refine hK.out _ _ ?_
   clear hK K
   try simp only [Act.put, List.getElem_toArray, List.getElem_cons_zero, List.getElem_cons_succ, List.setIfInBounds_toArray, List.set_cons_zero, List.set_cons_succ]
   refine wpAnyL_done (by kernel_rfl) ?_ _
   have hfin := Hb.out.trans ((Below.of_drew hb3).trans hb4)
   have hE4 := hE3.drop
   rw [HR.out] at hE4
   obtain ⟨HE3, Hb3, Hb4, Hfin, HE4⟩ := hd5 hE3 hb3 hb4 hfin hE4
   clear hE4 hfin hb4 hb3 hE3
   go_wp2_with fail
   go_end0
   exact ⟨rfl, HE4.out, Hfin.out⟩
end
end Go.Proofs.YtnfjjliiajaijaaDoor
namespace Go.Proofs.YtnfjjliiajaijaaDoor
open Go.RowKit
def EmS.zero (E : EmS) : EmS := { E with zeros := E.zeros ++ [E.code.length] }
def EmS.nul (E : EmS) : EmS := { E with nulls := E.nulls ++ [E.code.length] }
theorem sz_zero (E : EmS) : E.zero.sz = E.sz + 1 := by unfold EmS.sz EmS.zero; simp only [List.length_append, List.length_singleton]; omega
theorem sz_nul (E : EmS) : E.nul.sz = E.sz + 1 := by unfold EmS.sz EmS.nul; simp only [List.length_append, List.length_singleton]; omega
section
variable {w : World} {base : Nat} {X : EmX} {E : EmS} {rest : List It}
theorem EmAt.zero_ (h : EmAt w base X E rest) : ∃ v, w.cell? ⟨X.fp, 9, none⟩ = some v ∧ w.ownsRow base 3 1 v E.zeros.length (natV E.zeros) ∧
  ∀ w', w.grownBy w' v.ownBlock → (∀ g, g = X.fp ∨ g = X.ep → ∀ j, w'.cell? ⟨g, j, none⟩ = w.cell? ⟨g, j, none⟩) ∧ w'.frozen? ⟨X.fp, 9, none⟩ = false ∧
   ∀ A c, w'.ownsRow base 3 1 (.slice A (E.zeros.length + 1) c) (E.zeros.length + 1) (natV E.zeros ++ [.int .i64 (E.code.length : Nat)]) → ((Value.slice A (E.zeros.length + 1) c).ownBlock = v.ownBlock ∨ ∀ b, (Value.slice A (E.zeros.length + 1) c).ownBlock = some b → w.heap.size ≤ b) →
    EmAt (w'.setCell ⟨X.fp, 9, none⟩ (.slice A (E.zeros.length + 1) c)) base X E.zero rest ∧ Below base w (w'.setCell ⟨X.fp, 9, none⟩ (.slice A (E.zeros.length + 1) c)) := by
 obtain ⟨cv, sv, zv, nv, Mc, J, L, lvs, h1, hI⟩ := h
 have hb := hI.blk (i := 3) rfl
 have he := hI.blk (i := 0) rfl
 have ho := hI.own (i := 6) rfl
 have hfb := (hI.at_ (i := 3) rfl).lt X.fp rfl
 refine ⟨_, hb.cell 9, ho, fun w' hg => ?_⟩
 have hn3 := hI.ne_row (i := 3) (j := 6) rfl rfl (by omega)
 have hn0 := hI.ne_row (i := 0) (j := 6) rfl rfl (by omega)
 have hb' := hb.grown hg hn3
 have he' := he.grown hg hn0
 refine ⟨fun g hgg j => ?_, hb'.frozen 9, fun A c ho' hat => ?_⟩
 ·rcases hgg with rfl | rfl
  ·rw [hb'.cell j, hb.cell j]
  ·rw [he'.cell j, he.cell j]
 ·have hI2 := hI.push (i := 6) rfl ho' hg hat
  have hI3 := hI2.set_ (i := 3) rfl 9 (.slice A (E.zeros.length + 1) c)
  refine ⟨⟨cv, sv, (.slice A (E.zeros.length + 1) c), nv, Mc, J, L, lvs, h1, ?_⟩, ?_⟩
  ·have e : (E.zero).zeros.length = E.zeros.length + 1 := by unfold EmS.zero; simp only [List.length_append, List.length_singleton]
   have e2 : natV (E.zero).zeros = natV E.zeros ++ [.int .i64 (E.code.length : Nat)] := by unfold EmS.zero natV; simp
   show Items _ base (emItems X E.zero cv sv (.slice A (E.zeros.length + 1) c) nv Mc J L lvs ++ _)
   unfold emItems
   rw [e, e2]
   exact hI3
  ·exact ((Below.refl base w).grown hg (by omega) fun b e => (ho.lt b e).1).setCell (p := ⟨X.fp, 9, none⟩) hfb.1 _
theorem EmAt.nul_ (h : EmAt w base X E rest) : ∃ v, w.cell? ⟨X.fp, 10, none⟩ = some v ∧ w.ownsRow base 3 1 v E.nulls.length (natV E.nulls) ∧
  ∀ w', w.grownBy w' v.ownBlock → (∀ g, g = X.fp ∨ g = X.ep → ∀ j, w'.cell? ⟨g, j, none⟩ = w.cell? ⟨g, j, none⟩) ∧ w'.frozen? ⟨X.fp, 10, none⟩ = false ∧
   ∀ A c, w'.ownsRow base 3 1 (.slice A (E.nulls.length + 1) c) (E.nulls.length + 1) (natV E.nulls ++ [.int .i64 (E.code.length : Nat)]) → ((Value.slice A (E.nulls.length + 1) c).ownBlock = v.ownBlock ∨ ∀ b, (Value.slice A (E.nulls.length + 1) c).ownBlock = some b → w.heap.size ≤ b) →
    EmAt (w'.setCell ⟨X.fp, 10, none⟩ (.slice A (E.nulls.length + 1) c)) base X E.nul rest ∧ Below base w (w'.setCell ⟨X.fp, 10, none⟩ (.slice A (E.nulls.length + 1) c)) := by
 obtain ⟨cv, sv, zv, nv, Mc, J, L, lvs, h1, hI⟩ := h
 have hb := hI.blk (i := 3) rfl
 have he := hI.blk (i := 0) rfl
 have ho := hI.own (i := 7) rfl
 have hfb := (hI.at_ (i := 3) rfl).lt X.fp rfl
 refine ⟨_, hb.cell 10, ho, fun w' hg => ?_⟩
 have hn3 := hI.ne_row (i := 3) (j := 7) rfl rfl (by omega)
 have hn0 := hI.ne_row (i := 0) (j := 7) rfl rfl (by omega)
 have hb' := hb.grown hg hn3
 have he' := he.grown hg hn0
 refine ⟨fun g hgg j => ?_, hb'.frozen 10, fun A c ho' hat => ?_⟩
 ·rcases hgg with rfl | rfl
  ·rw [hb'.cell j, hb.cell j]
  ·rw [he'.cell j, he.cell j]
 ·have hI2 := hI.push (i := 7) rfl ho' hg hat
  have hI3 := hI2.set_ (i := 3) rfl 10 (.slice A (E.nulls.length + 1) c)
  refine ⟨⟨cv, sv, zv, (.slice A (E.nulls.length + 1) c), Mc, J, L, lvs, h1, ?_⟩, ?_⟩
  ·have e : (E.nul).nulls.length = E.nulls.length + 1 := by unfold EmS.nul; simp only [List.length_append, List.length_singleton]
   have e2 : natV (E.nul).nulls = natV E.nulls ++ [.int .i64 (E.code.length : Nat)] := by unfold EmS.nul natV; simp
   show Items _ base (emItems X E.nul cv sv zv (.slice A (E.nulls.length + 1) c) Mc J L lvs ++ _)
   unfold emItems
   rw [e, e2]
   exact hI3
  ·exact ((Below.refl base w).grown hg (by omega) fun b e => (ho.lt b e).1).setCell (p := ⟨X.fp, 10, none⟩) hfb.1 _
theorem infoIntE : (Tryd.prog.info? 3).map (fun i => (i.zero, i.size, i.bytes)) = some (some (.int .i64 0), 1, 8) := by kernel_rfl
def EmS.alu (E : EmS) (by_ d a b : Nat) (r s : Nat) : EmS := (E.put [⟨32 + by_, regOf d 13, r, s, 0⟩]).done d (regOf d 13)
def EmS.reckon (E : EmS) (by_ d a b : Nat) : EmS :=
 let E1 := (E.read a 13).read b 15
 let E2 := if by_ = 10 ∨ by_ = 11 then E1.zero.jump 8 (regOf b 15) 1048577 else E1
 E2.alu by_ d a b (regOf a 13) (regOf b 15)
theorem regOf_lt {p into k : Nat} (hi : into < k) (hk : 16 ≤ k) : regOf p into < k := by unfold regOf; split <;> omega
theorem sz_alu (E : EmS) (b d a c r s : Nat) : (E.alu b d a c r s).sz ≤ E.sz + 2 := by
 unfold EmS.alu
 have := sz_done (E.put [⟨32 + b, regOf d 13, r, s, 0⟩]) d (regOf d 13)
 rw [sz_put] at this
 simp only [List.length_singleton] at this; omega
theorem reckon_em (h : EmAt w base X E rest) (x : NodeD) (av : Value) (y d a b : Nat) (hy : x.byo = (y : Int)) (hy1 : 7 ≤ y) (hy2 : y ≤ 20) (hd : x.d = (d : Int)) (ha : x.a = (a : Int)) (hbb : x.b = (b : Int)) (hdn : d < 16 + X.ns) (han : a < 16 + X.ns) (hbn : b < 16 + X.ns) (hns : X.ns ≤ 1048576) (hsz : E.sz + 7 ≤ 1099511627776) :
  Calls Tryd.prog 73 #[.pointer (some ⟨X.fp, 0, none⟩), .agg (ncells x av).toArray] w fun e w' => EmGot base X rest w (.tuple #[]) (E.reckon y d a b) e w' := by
 obtain ⟨iI, hiI, iz0, iz1, iz2⟩ := info_parts infoIntE
 obtain ⟨NC, hNC⟩ : ∃ NC : Array Value, NC = (ncells x av).toArray := ⟨_, rfl⟩
 rw [← hNC]
 have hNS : NC.size = 12 := by rw [hNC]; rfl
 have hbx := h.box 55 NC
 have hb := (Below.refl base w).alloc h.size (.cells NC 55)
 obtain ⟨N, hN⟩ : ∃ N, N = w.heap.size := ⟨_, rfl⟩
 obtain ⟨w1, hw1⟩ : ∃ w1, w1 = w.alloc (.cells NC 55) := ⟨_, rfl⟩
 rw [← hw1, ← hN] at hbx
 rw [← hw1] at hb
 have g1 : ∀ W : World, Blk W N 55 NC → W.cell? ⟨N, 1, none⟩ = some (.int .u8 (y : Nat)) := fun W hB => node_cell hB hNC 1 (by show some (Value.int .u8 x.byo) = _; rw [hy])
 have g2 : ∀ W : World, Blk W N 55 NC → W.cell? ⟨N, 2, none⟩ = some (.int .i64 (d : Nat)) := fun W hB => node_cell hB hNC 2 (by show some (Value.int .i64 x.d) = _; rw [hd])
 have g4 : ∀ W : World, Blk W N 55 NC → W.cell? ⟨N, 4, none⟩ = some (.int .i64 (a : Nat)) := fun W hB => node_cell hB hNC 4 (by show some (Value.int .i64 x.a) = _; rw [ha])
 have g5 : ∀ W : World, Blk W N 55 NC → W.cell? ⟨N, 5, none⟩ = some (.int .i64 (b : Nat)) := fun W hB => node_cell hB hNC 5 (by show some (Value.int .i64 x.b) = _; rw [hbb])
 have n4 := g4 _ hbx.blk
 have n5 := g5 _ hbx.blk
 have hrd := read_em hbx.drew a 13 han (by omega) hns
 obtain ⟨ra, hra⟩ : ∃ ra, regOf a 13 = ra := ⟨_, rfl⟩
 obtain ⟨rb, hrb⟩ : ∃ rb, regOf b 15 = rb := ⟨_, rfl⟩
 obtain ⟨rd, hrdd⟩ : ∃ rd, regOf d 13 = rd := ⟨_, rfl⟩
 rw [hra] at hrd
 have hra16 : ra < 16 := by rw [← hra]; exact regOf_lt (by omega) (by omega)
 have hrb16 : rb < 16 := by rw [← hrb]; exact regOf_lt (by omega) (by omega)
 obtain ⟨R, hR⟩ : ∃ R, E.reckon y d a b = R := ⟨_, rfl⟩
 rw [hR]
 obtain ⟨H, Hbx, Hb, HN, Hw1, HNC, Hg1, Hg2⟩ := hd8 h hbx hb hN hw1 hNC g1 g2
 obtain ⟨Hg4, Hg5, Hrd, HR, Hra, Hrb, Hrdd, Hy⟩ := hd8 g4 g5 hrd hR hra hrb hrdd hy
 obtain ⟨Hd, Ha, Hbb⟩ := hd3 hd ha hbb
 clear hbb ha hd hy hrdd hrb hra hR hrd g5 g4 g2 g1 hNC hw1 hN hb hbx h
 go_enter Tryd.func73, Tryd.ntmps73
 go_upto_region 1 with fail
 rw [← Hw1.out, ← HN.out]
 refine wp_region_late (S := fun W => W.cell? ⟨N, 4, none⟩ = some (.int .i64 (a : Nat)) ∧ W.cell? ⟨N, 5, none⟩ = some (.int .i64 (b : Nat))) #[false, false, false, false, false, false, false, false, false, false] (by kernel_rfl) ⟨n4, n5⟩ (fun hHeld => ?_)
 refine wpAnyL_tk 0 ?_
 refine wpAnyL_tk 1 ?_
 refine wpAnyL_tk 2 ?_
 refine wpAnyL_tk 4 ?_
 refine wpAnyL_tk 5 ?_
 refine wpAnyL_tk 6 ?_
 refine wpAnyL_ready (rs := [3]) (by kernel_rfl) (by simp) ?_
 refine AllReadyL.cons rfl (fun K hK => ?_) AllReadyL.nil
 go_simp
 refine Hrd.out.mono ?_
 rintro e w2 ⟨rfl, hE2, hb12⟩
 have hrd2 := read_em hE2 b 15 hbn (by have := sz_read E a 13; omega) hns
 rw [Hrb.out] at hrd2
 have hb2 := Hb.out.trans (Below.of_drew hb12)
 refine hK.out _ _ ⟨Hg4.out _ hE2.blk, Hg5.out _ hE2.blk⟩ (fun hHeld2 => ?_)
 clear hK K hHeld
 try simp only [Act.put, List.getElem_toArray, List.getElem_cons_zero, List.getElem_cons_succ, List.setIfInBounds_toArray, List.set_cons_zero, List.set_cons_succ]
 obtain ⟨HE2, Hb12, Hrd2, Hb2⟩ := hd4 hE2 hb12 hrd2 hb2
 clear hb2 hrd2 hb12 hE2
 refine wpAnyL_ready (rs := [7]) (by kernel_rfl) (by simp) ?_
 refine AllReadyL.cons rfl (fun K hK => ?_) AllReadyL.nil
 go_simp
 refine Hrd2.out.mono ?_
 rintro e w3 ⟨rfl, hE3, hb23⟩
 have hb3 := Hb2.out.trans hb23
 refine hK.out _ _ ⟨Hg4.out _ hE3.blk, Hg5.out _ hE3.blk⟩ (fun hHeld3 => ?_)
 clear hK K hHeld2
 try simp only [Act.put, List.getElem_toArray, List.getElem_cons_zero, List.getElem_cons_succ, List.setIfInBounds_toArray, List.set_cons_zero, List.set_cons_succ]
 refine wpAnyL_tk 8 ?_
 refine wpAnyL_tk 9 ?_
 refine wpAnyL_done (by kernel_rfl) ?_ _
 have p1 := Hg1.out _ hE3.blk
 have hs3 : ((E.read a 13).read b 15).sz ≤ E.sz + 2 := by
  have h1 := sz_read (E.read a 13) b 15
  have h2 := sz_read E a 13
  omega
 obtain ⟨E3, hE3e⟩ : ∃ E3, (E.read a 13).read b 15 = E3 := ⟨_, rfl⟩
 rw [hE3e] at hE3 hs3
 have hRR := HR.out
 unfold EmS.reckon at hRR
 simp only [hE3e] at hRR
 clear n4 n5 hHeld3
 by_cases hz : y = 10 ∨ y = 11
 case' neg =>
  rw [if_neg hz] at hRR
  have hz1 : ((y : Int) == 10) = false := by simp; omega
  have hz2 : ((y : Int) == 11) = false := by simp; omega
  obtain ⟨HE3, Hb23, Hb3, HRR, HE3e⟩ := hd5 hE3 hb23 hb3 hRR hE3e
  clear hE3e hRR hb3 hb23 hE3
  go_upto_region 5 with fail
  obtain ⟨w5, hw5⟩ : ∃ w5, w5 = w3 := ⟨_, rfl⟩
  rw [← hw5]
  rw [← hw5] at HE3 Hb3
  have HE5 := HE3
  have Hb5 := Hb3
  obtain ⟨E5, hE5e⟩ : ∃ E5, E5 = E3 := ⟨_, rfl⟩
  rw [← hE5e] at HE5 HRR
  have hs5 : E5.sz ≤ E.sz + 5 := by rw [hE5e]; omega
  obtain ⟨Hw5, HE5e⟩ := hd2 hw5 hE5e
  clear hE5e hw5
 case' pos =>
  rw [if_pos hz] at hRR
  have hc : ((y : Int) == 10) = true ∨ (((y : Int) == 10) = false ∧ ((y : Int) == 11) = true) := by
   rcases hz with h | h
   ·exact .inl (by simp; omega)
   ·exact .inr ⟨by simp; omega, by simp; omega⟩
  obtain ⟨v, z9, zo, zk⟩ := hE3.drew.zero_
  obtain ⟨ZA, zc, rfl, _⟩ := own_any zo
  replace z9 : w3.cell? ⟨X.fp, 9, none⟩ = some (.slice ZA E3.zeros.length zc) := z9
  obtain ⟨f0, _⟩ := hE3.fn
  obtain ⟨CA, cc, k0⟩ := hE3.code
  have hfpl := hE3.fpb.2.1
  have hepl := hE3.fpb.2.2.2
  have hbs := hE3.size
  have hsE : E3.zeros.length + E3.code.length ≤ E3.sz := by unfold EmS.sz; omega
  obtain ⟨HE3, Hb23, Hb3, HRR, HE3e, Hzo, Hzk, Hz⟩ := hd8 hE3 hb23 hb3 hRR hE3e zo zk hz
  clear hz zk zo hE3e hRR hb3 hb23 hE3
  rcases hc with hz1 | ⟨hz1, hz2⟩
  all_goals
   go_upto_region 3 with fail
   refine wp_region_late (S := fun W => W.cell? ⟨X.fp, 0, none⟩ = some (.pointer (some ⟨X.ep, 0, none⟩)) ∧ W.cell? ⟨X.fp, 9, none⟩ = some (.slice ZA E3.zeros.length zc) ∧ W.cell? ⟨X.ep, 0, none⟩ = some (.slice CA E3.code.length cc)) #[false, false, false, false, false, false, false, false, false, false, false, false, false, false, false, false, false, true] (by kernel_rfl) ⟨f0, z9, k0⟩ (fun hHeld => ?_)
   refine wpAnyL_tk 0 ?_
   refine wpAnyL_tk 1 ?_
   refine wpAnyL_tk 2 ?_
   refine wpAnyL_tk 3 ?_
   refine wpAnyL_tk 4 ?_
   refine wpAnyL_tk 5 ?_
   refine wpAnyL_tk 6 ?_
   refine wpAnyL_tk 7 ?_
   refine wpAnyL_tk 8 ?_
   refine wpAnyL_tk 9 ?_
   refine wpAnyL_tk 10 ?_
   refine wpAnyL_tk 11 ?_
   refine wpAnyL_tk 12 ?_
   refine wpAnyL_ready (rs := [13]) (by kernel_rfl) (by simp) ?_
   refine AllReadyL.cons rfl (fun K hK => ?_) AllReadyL.nil
   go_simp
   refine hK.out _ _ ⟨(World.cell?_alloc_lt _ _ ⟨X.fp, 0, none⟩ hfpl).trans f0, (World.cell?_alloc_lt _ _ ⟨X.fp, 9, none⟩ hfpl).trans z9, (World.cell?_alloc_lt _ _ ⟨X.ep, 0, none⟩ hepl).trans k0⟩ (fun hHeld2 => ?_)
   clear hK K hHeld
   try simp only [Act.put, List.getElem_toArray, List.getElem_cons_zero, List.getElem_cons_succ, List.setIfInBounds_toArray, List.set_cons_zero, List.set_cons_succ]
   refine wpAnyL_ready (rs := [14]) (by kernel_rfl) (by simp) ?_
   refine AllReadyL.cons rfl (fun K hK => ?_) AllReadyL.nil
   refine step_append_any _ rfl (.tmp 27) (.tmp 36) _ rfl base 3 iI _ 1 8 Tryd.underlying40 hiI iz0 iz1 iz2 rfl (by omega) (.slice ZA E3.zeros.length zc) E3.zeros.length (natV E3.zeros) rfl (Hzo.out.alloc _) (w3.heap.size + 1) (some ⟨w3.heap.size, 0, none⟩) 1 1 [.int .i64 (E3.code.length : Nat)] rfl (Reads.new1 _ _ _) ?c1 ?c2 ?c3 ?c4 ?_
   case c1 => intro u hu; simp at hu; rw [hu]; rfl
   case c2 => simp only [maxLen]; omega
   case c3 => omega
   case c4 => simp; omega
   intro v4 w4 hown4 hg4 hat4
   obtain ⟨A4, c4, rfl, _⟩ := own_any hown4
   have hg4' := (World.grownBy_alloc w3.drew (.cells #[.int .i64 (E3.code.length : Nat)] 3) _).trans hg4
   obtain ⟨zc', zf, zn⟩ := Hzk.out w4 hg4'
   obtain ⟨hE4, hb4⟩ := zn A4 c4 hown4 (by
    rcases hat4 with e | e
    ·exact .inl e
    ·exact .inr fun b hb => by rw [e] at hb; injection hb with hb; simp at hb; simp; omega)
   have y0 := (zc' X.fp (.inl rfl) 0).trans f0
   have y9 := (zc' X.fp (.inl rfl) 9).trans z9
   have ye := (zc' X.ep (.inr rfl) 0).trans k0
   have hjmp := jump_em hE4 8 rb 1048577 (by omega) (by omega) (by rw [sz_zero]; omega)
   refine hK.out _ _ ⟨y0, y9, ye⟩ (fun hHeld3 => ?_)
   clear hK K hHeld2
   obtain ⟨Hzc', HE4, Hb4, Hjmp, Hown4, Hg4, Hg4', Hat4⟩ := hd8 zc' hE4 hb4 hjmp hown4 hg4 hg4' hat4
   have Hzn := Lib.hid zn
   clear zn hat4 hg4' hg4 hown4 hjmp hb4 hE4 zc'
   try simp only [Act.put, List.getElem_toArray, List.getElem_cons_zero, List.getElem_cons_succ, List.setIfInBounds_toArray, List.set_cons_zero, List.set_cons_succ]
   refine wpAnyL_tk 15 ?_
   refine wpAnyL_tk 16 ?_
   refine wpAnyL_ready (rs := [17]) (by kernel_rfl) (by simp) ?_
   refine AllReadyL.last rfl (by kernel_rfl) (fun K hK => ?_) AllReadyL.nil
   go_simp
   refine hK.out _ _ ?_
   clear hK K
   try simp only [Act.put, List.getElem_toArray, List.getElem_cons_zero, List.getElem_cons_succ, List.setIfInBounds_toArray, List.set_cons_zero, List.set_cons_succ]
   refine wpAnyL_done (by kernel_rfl) ?_ _
   clear y0 y9 ye zf f0 z9 k0 hHeld3
   go_wp2_with fail
   refine Hjmp.out.mono ?_
   rintro e w5 ⟨rfl, hE5, hb45⟩
   have hb5 := ((Hb3.out.drew).trans (Hb4.out)).trans hb45
   rw [← Hrb.out] at hE5
   obtain ⟨E5, hE5e⟩ : ∃ E5, E5 = E3.zero.jump 8 (regOf b 15) 1048577 := ⟨_, rfl⟩
   rw [← hE5e] at hE5 HRR
   have hs5 : E5.sz ≤ E.sz + 5 := by rw [hE5e, sz_jump, sz_zero]; omega
   obtain ⟨HE5, Hb45, Hb5, HE5e⟩ := hd4 hE5 hb45 hb5 hE5e
   clear hE5e hb5 hb45 hE5
   go_upto_region 5 with fail
 all_goals
  have q2 := Hg2.out _ HE5.out.blk
  have q1 := Hg1.out _ HE5.out.blk
  have hwr := write_em X.fp d w5
  rw [Hrdd.out] at hwr
  have Hwr := Lib.hid hwr
  clear hwr
  go_wp2_with fail
  refine Hwr.out.mono ?_
  rintro e w6 ⟨rfl, rfl⟩
  go_upto_region 6 with fail
  obtain ⟨f0, _⟩ := HE5.out.fn
  have hfpl := HE5.out.fpb.2.1
  have hNl := HE5.out.blk.lt
  have hwy : IntKind.u8.wrap (32 + (y : Int)) = ((32 + y : Nat) : Int) := by rw [IntKind.wrap_u8]; omega
  have hput := put_em ((HE5.out.drew).alloc (.cells #[.int .u8 (32 + y : Nat), .int .i64 (rd : Nat), .int .i64 (ra : Nat), .int .i64 (rb : Nat), .int .i32 0] 71)) (ms := [⟨32 + y, rd, ra, rb, 0⟩]) (c := 1) (Reads.newS _ rfl _ _ _ _ _ rfl rfl) rfl (by omega)
  have hb6 := (Hb5.out.drew).alloc HE5.out.drew.size (.cells #[.int .u8 (32 + y : Nat), .int .i64 (rd : Nat), .int .i64 (ra : Nat), .int .i64 (rb : Nat), .int .i32 0] 71)
  obtain ⟨Hput, Hb6⟩ := hd2 hput hb6
  clear hb6 hput
  refine wp_region_late (S := fun W => W.cell? ⟨X.fp, 0, none⟩ = some (.pointer (some ⟨X.ep, 0, none⟩)) ∧ W.cell? ⟨N, 1, none⟩ = some (.int .u8 (y : Nat))) #[false, false, false, false, false, false, false, false, false, false, false, false, true] (by kernel_rfl) ⟨f0, q1⟩ (fun hHeld => ?_)
  refine wpAnyL_tk 0 ?_
  refine wpAnyL_tk 1 ?_
  refine wpAnyL_tk 2 ?_
  refine wpAnyL_tk 3 ?_
  refine wpAnyL_tk 4 ?_
  refine wpAnyL_tk 5 ?_
  refine wpAnyL_tk 6 ?_
  refine wpAnyL_tk 7 ?_
  refine wpAnyL_tk 8 ?_
  refine wpAnyL_tk 9 ?_
  refine wpAnyL_tk 10 ?_
  refine wpAnyL_ready (rs := [11]) (by kernel_rfl) (by simp) ?_
  refine AllReadyL.cons rfl (fun K hK => ?_) AllReadyL.nil
  go_simp
  refine hK.out _ _ ⟨(World.cell?_alloc_lt _ _ ⟨X.fp, 0, none⟩ hfpl).trans f0, (World.cell?_alloc_lt _ _ ⟨N, 1, none⟩ hNl).trans q1⟩ (fun hHeld2 => ?_)
  clear hK K hHeld
  try simp only [Act.put, List.getElem_toArray, List.getElem_cons_zero, List.getElem_cons_succ, List.setIfInBounds_toArray, List.set_cons_zero, List.set_cons_succ]
  refine wpAnyL_ready (rs := [12]) (by kernel_rfl) (by simp) ?_
  refine AllReadyL.last rfl (by kernel_rfl) (fun K hK => ?_) AllReadyL.nil
  go_simp
  refine Hput.out.mono ?_
  rintro e w7 ⟨rfl, hE7, hb7⟩
  refine hK.out _ _ ?_
  clear hK K
  try simp only [Act.put, List.getElem_toArray, List.getElem_cons_zero, List.getElem_cons_succ, List.setIfInBounds_toArray, List.set_cons_zero, List.set_cons_succ]
  refine wpAnyL_done (by kernel_rfl) ?_ _
  have q3 := Hg2.out _ hE7.blk
  have hdn2 := done_em hE7 d rd hdn (by rw [sz_put]; simp only [List.length_singleton]; omega) hns
  have hb8 := Hb6.out.trans hb7
  clear q1 q2 f0
  obtain ⟨HE7, Hb7, Hdn2, Hb8⟩ := hd4 hE7 hb7 hdn2 hb8
  clear hb8 hdn2 hb7 hE7
  go_wp2_with fail
  refine Hdn2.out.mono ?_
  rintro e w8 ⟨rfl, hE8, hb9⟩
  have hfin := Hb8.out.trans hb9
  have hE9 := hE8.drop
  unfold EmS.alu at HRR
  have hRf := HRR.out
  rw [Hrdd.out, Hra.out, Hrb.out] at hRf
  rw [hRf] at hE9
  obtain ⟨HE8, Hb9, Hfin, HE9, HRf⟩ := hd5 hE8 hb9 hfin hE9 hRf
  clear hRf hE9 hfin hb9 hE8
  go_wp2_with fail
  go_end0
  exact ⟨rfl, HE9.out, Hfin.out⟩
end
end Go.Proofs.YtnfjjliiajaijaaDoor
