/- Part of the proof, named by its texts: EmN EmD EmE EmF. No condition of its own. -/
import Derived.Test.YtnfjjliiajaijaaDoorPfAK
import Derived.Test.YtnfjjliiajaijaaDoorPfAL
import Derived.Test.YtnfjjliiajaijaaDoorPfAN
import Derived.Test.YtnfjjliiajaijaaDoorPfAF
import Derived.Test.YtnfjjliiajaijaaDoorPfAA
set_option linter.unusedVariables false
set_option linter.unusedSimpArgs false
set_option maxRecDepth 100000
set_option maxHeartbeats 16000000
namespace Go.Proofs.YtnfjjliiajaijaaDoor
open Go.RowKit
def EmS.node (E : EmS) (ns : Nat) (res : Int) (i : Nat) (L : List Int) (x : zam) : EmS :=
 if x.op = 1 then ((E.mark i).number (zax x.d.toNat 13) x.imm).done x.d.toNat (zax x.d.toNat 13)
 else if x.op = 2 then (E.mark i).move x.d.toNat x.a.toNat
 else if x.op = 3 then (E.mark i).reckon x.byo.toNat x.d.toNat x.a.toNat x.b.toNat
 else if x.op = 4 then ((E.mark i).put [⟨4, zax x.d.toNat 13, 14, 0, 8 * ((ns + x.cell.toNat : Nat) : Int)⟩]).done x.d.toNat (zax x.d.toNat 13)
 else if x.op = 5 then ((E.mark i).read x.a.toNat 13).store (8 * ((ns + x.cell.toNat : Nat) : Int)) (zax x.a.toNat 13)
 else if x.op = 6 then ((E.mark i).put [⟨6, zax x.d.toNat 13, 14, 0, 8 * ((ns + x.cell.toNat : Nat) : Int)⟩]).done x.d.toNat (zax x.d.toNat 13)
 else if x.op = 7 then (E.mark i).memory 7 x.d.toNat x.a.toNat 0
 else if x.op = 8 then (E.mark i).memory 8 0 x.a.toNat x.b.toNat
 else if x.op = 9 then ((E.mark i).read x.a.toNat 13).jump 8 (zax x.a.toNat 13) x.els.toNat
 else if x.op = 10 then (E.mark i).jump 7 0 x.next.toNat
 else if x.op = 11 then (((E.mark i).call x.f.toNat).put [⟨9, 0, 0, 0, 0⟩]).site L
 else if x.op = 12 then if x.a < 0 then (E.mark i).jump 7 0 1048576 else (((E.mark i).read x.a.toNat 13).store res (zax x.a.toNat 13)).jump 7 0 1048576
 else if x.op = 13 then (E.mark i).system 13 0 0 0 x.f.toNat
 else if x.op = 14 then (E.mark i).system 14 0 0 x.a.toNat 0
 else if x.op = 15 then (E.mark i).system 15 x.d.toNat x.e.toNat 0 0
 else if x.op = 16 then (E.mark i).system 16 x.d.toNat 0 0 0
 else if x.op = 17 then (E.mark i).system 17 0 0 x.a.toNat 0
 else (E.mark i).system 18 0 0 x.a.toNat 0
theorem zmw {g : zad} {b : Bool} {k : Int} {ps : List Int} (h : isB g b k ps = true) : ∀ p ∈ ps, 0 <= p /\ p < (g.kinds.length : Int) := fun p hp => by
 have := List.all_eq_true.1 h p hp;unfold za7 at this;simp only [Bool.and_eq_true, decide_eq_true_eq] at this;exact this.1
theorem zey {g : zad} {c : Int} (h : zbT g c = true) : 0 <= c /\ c < g.cells := by
 unfold zbT at h
 simpa using h
theorem zkV {gs : List zad} {g : zad} {b : Bool} {x : zam} (h : zcM gs g b x = true) : 0 <= x.f /\ x.f < (gs.length : Int) := by
 unfold zcM at h;rw [Bool.and_eq_true] at h;obtain ⟨h1, h2⟩ := h
 have h0 : 0 <= x.f := by simpa using h1
 rcases hf : gs[x.f.toNat]? with _ | f
 ·rw [hf] at h2; cases h2
 ·have := (List.getElem?_eq_some_iff.1 hf).1
  omega
structure zlV (gs : List zad) (g : zad) (x : zam) : Prop where
 op1 : 1 <= x.op /\ x.op <= 18
 next : ∀ t ∈ zaR x, 0 <= t /\ t < (g.nodes.length : Int)
 d : x.op = 1 ∨ x.op = 2 ∨ x.op = 3 ∨ x.op = 4 ∨ x.op = 6 ∨ x.op = 7 ∨ x.op = 15 ∨ x.op = 16 -> 0 <= x.d /\ x.d < (g.kinds.length : Int)
 a : x.op = 2 ∨ x.op = 3 ∨ x.op = 5 ∨ x.op = 7 ∨ x.op = 8 ∨ x.op = 9 ∨ x.op = 14 ∨ x.op = 17 ∨ x.op = 18 -> 0 <= x.a /\ x.a < (g.kinds.length : Int)
 b : x.op = 3 ∨ x.op = 8 -> 0 <= x.b /\ x.b < (g.kinds.length : Int)
 e : x.op = 15 -> 0 <= x.e /\ x.e < (g.kinds.length : Int)
 by_ : x.op = 3 -> 7 <= x.byo /\ x.byo <= 20
 cell : x.op = 4 ∨ x.op = 5 ∨ x.op = 6 -> 0 <= x.cell /\ x.cell < g.cells
 f : x.op = 11 ∨ x.op = 13 -> 0 <= x.f /\ x.f < (gs.length : Int)
 ret : x.op = 12 -> x.a = -1 /\ g.result = false ∨ g.result = true /\ 0 <= x.a /\ x.a < (g.kinds.length : Int)
 cd : x.op = 11 -> x.d = -1 ∨ 0 <= x.d /\ x.d < (g.kinds.length : Int)
 dne : x.op = 15 -> x.d ≠ x.e
theorem zlV.of {gs : List zad} {g : zad} {x : zam} (h : zbg gs g true x = true) : zlV gs g x := by
 unfold zbg at h;rw [Bool.and_eq_true] at h;obtain ⟨hn, ho⟩ := h
 have hnx : ∀ t ∈ zaR x, 0 <= t /\ t < (g.nodes.length : Int) := fun t ht => by
  have := List.all_eq_true.1 hn t ht
  simpa using this
 unfold opB at ho
 have hz : ∀ {k : Int} {ps : List Int}, isB g true k ps = true -> ∀ p ∈ ps, 0 <= p /\ p < (g.kinds.length : Int) := fun h => zmw h
 by_cases q0 : x.op = 1 ∨ x.op = 16
 ·rw [if_pos q0] at ho;have hd := hz ho x.d (by simp)
  refine ⟨by omega, hnx, ?_, ?_, ?_, ?_, ?_, ?_, ?_, ?_, ?_, ?_⟩ <;> intro hh <;> first | omega | assumption | exact hr
 rw [if_neg q0] at ho
 by_cases q0 : x.op = 2
 ·rw [if_pos q0] at ho
  have hda : ∀ p ∈ [x.d, x.a], 0 <= p /\ p < (g.kinds.length : Int) := by rw [Bool.or_eq_true] at ho; exact ho.elim hz hz
  have hd := hda x.d (by simp);have ha := hda x.a (by simp)
  refine ⟨by omega, hnx, ?_, ?_, ?_, ?_, ?_, ?_, ?_, ?_, ?_, ?_⟩ <;> intro hh <;> first | omega | assumption | exact hr
 rw [if_neg q0] at ho
 by_cases q0 : x.op = 3
 ·rw [if_pos q0] at ho;rw [Bool.and_eq_true, Bool.and_eq_true, decide_eq_true_eq, decide_eq_true_eq] at ho;have hd := hz ho.2 x.d (by simp);have ha := hz ho.2 x.a (by simp);have hb := hz ho.2 x.b (by simp);have hy := ho.1
  refine ⟨by omega, hnx, ?_, ?_, ?_, ?_, ?_, ?_, ?_, ?_, ?_, ?_⟩ <;> intro hh <;> first | omega | assumption | exact hr
 rw [if_neg q0] at ho
 by_cases q0 : x.op = 4
 ·rw [if_pos q0] at ho;rw [Bool.and_eq_true] at ho;have hd := hz ho.2 x.d (by simp);have hc := zey ho.1
  refine ⟨by omega, hnx, ?_, ?_, ?_, ?_, ?_, ?_, ?_, ?_, ?_, ?_⟩ <;> intro hh <;> first | omega | assumption | exact hr
 rw [if_neg q0] at ho
 by_cases q0 : x.op = 5
 ·rw [if_pos q0] at ho;rw [Bool.and_eq_true] at ho;have ha := hz ho.2 x.a (by simp);have hc := zey ho.1
  refine ⟨by omega, hnx, ?_, ?_, ?_, ?_, ?_, ?_, ?_, ?_, ?_, ?_⟩ <;> intro hh <;> first | omega | assumption | exact hr
 rw [if_neg q0] at ho
 by_cases q0 : x.op = 6
 ·rw [if_pos q0] at ho;rw [Bool.and_eq_true] at ho;have hd := hz ho.2 x.d (by simp);have hc := zey ho.1
  refine ⟨by omega, hnx, ?_, ?_, ?_, ?_, ?_, ?_, ?_, ?_, ?_, ?_⟩ <;> intro hh <;> first | omega | assumption | exact hr
 rw [if_neg q0] at ho
 by_cases q0 : x.op = 7
 ·rw [if_pos q0] at ho;rw [Bool.and_eq_true] at ho;have hd := hz ho.1 x.d (by simp);have ha := hz ho.2 x.a (by simp)
  refine ⟨by omega, hnx, ?_, ?_, ?_, ?_, ?_, ?_, ?_, ?_, ?_, ?_⟩ <;> intro hh <;> first | omega | assumption | exact hr
 rw [if_neg q0] at ho
 by_cases q0 : x.op = 8
 ·rw [if_pos q0] at ho;rw [Bool.and_eq_true] at ho;have ha := hz ho.1 x.a (by simp);have hb := hz ho.2 x.b (by simp)
  refine ⟨by omega, hnx, ?_, ?_, ?_, ?_, ?_, ?_, ?_, ?_, ?_, ?_⟩ <;> intro hh <;> first | omega | assumption | exact hr
 rw [if_neg q0] at ho
 by_cases q0 : x.op = 10
 ·rw [if_pos q0] at ho
  refine ⟨by omega, hnx, ?_, ?_, ?_, ?_, ?_, ?_, ?_, ?_, ?_, ?_⟩ <;> intro hh <;> first | omega | assumption | exact hr
 rw [if_neg q0] at ho
 by_cases q0 : x.op = 9 ∨ x.op = 14 ∨ x.op = 18 ∨ x.op = 17
 ·rw [if_pos q0] at ho;have ha := hz ho x.a (by simp)
  refine ⟨by omega, hnx, ?_, ?_, ?_, ?_, ?_, ?_, ?_, ?_, ?_, ?_⟩ <;> intro hh <;> first | omega | assumption | exact hr
 rw [if_neg q0] at ho
 by_cases q0 : x.op = 15
 ·rw [if_pos q0] at ho;rw [Bool.and_eq_true, decide_eq_true_eq] at ho;have hd := hz ho.2 x.d (by simp);have he := hz ho.2 x.e (by simp);have hne := ho.1
  refine ⟨by omega, hnx, ?_, ?_, ?_, ?_, ?_, ?_, ?_, ?_, ?_, ?_⟩ <;> intro hh <;> first | omega | assumption | exact hr
 rw [if_neg q0] at ho
 by_cases q0 : x.op = 13
 ·rw [if_pos q0] at ho;have hf := zkV ho
  refine ⟨by omega, hnx, ?_, ?_, ?_, ?_, ?_, ?_, ?_, ?_, ?_, ?_⟩ <;> intro hh <;> first | omega | assumption | exact hr
 rw [if_neg q0] at ho
 by_cases q0 : x.op = 11
 ·rw [if_pos q0] at ho;rw [Bool.and_eq_true, Bool.or_eq_true, decide_eq_true_eq] at ho;have hf := zkV ho.1
  have hcd : x.d = -1 ∨ 0 <= x.d /\ x.d < (g.kinds.length : Int) := ho.2.imp id fun h => by
   rw [Bool.and_eq_true, Bool.and_eq_true] at h;exact hz h.1.1 x.d (by simp)
  refine ⟨by omega, hnx, ?_, ?_, ?_, ?_, ?_, ?_, ?_, ?_, ?_, ?_⟩ <;> intro hh <;> first | omega | assumption | exact hr
 rw [if_neg q0] at ho
 by_cases q0 : x.op = 12
 ·rw [if_pos q0] at ho
  have hr : x.a = -1 /\ g.result = false ∨ g.result = true /\ 0 <= x.a /\ x.a < (g.kinds.length : Int) := by
   rw [Bool.or_eq_true, Bool.and_eq_true, Bool.and_eq_true, Bool.and_eq_true, decide_eq_true_eq, decide_eq_true_eq, Bool.not_eq_true'] at ho
   exact ho.imp id fun h => ⟨h.1.2, hz h.2 x.a (by simp)⟩
  refine ⟨by omega, hnx, ?_, ?_, ?_, ?_, ?_, ?_, ?_, ?_, ?_, ?_⟩ <;> intro hh <;> first | omega | assumption | exact hr
 rw [if_neg q0] at ho
 cases ho
section
variable {w : World} {base : Nat} {X : EmX} {E : EmS} {rest : List It}
theorem zmo {gb go i : Nat} {g : zad} {x : zam} {gs : List zad} (h : zaz w base X E rest) (hga : X.ga = ⟨gb, (go : Nat), none⟩) (hG : GrF w base gb go g) (hx : g.nodes[i]? = some x) (ok : zlV gs g x) (hgl : gs.length <= 16) (hk : g.kinds.length = 16 + X.ns) (hc : g.cells = (X.nc : Int)) (hi64 : U64 x.imm)
  {n : Nat} {S : Nat -> Bool} {KD : Nat -> Int}
  (hP : ∀ W E', zaz W base X E' rest -> ∃ pA N pc g h', X.pv = .slice (some pA) N pc /\ i < N /\ W.cell? (pA.add i) = some (.pointer (some ⟨g, 0, none⟩)) /\ zcF W g h' n S)
  (hS : ∀ k, n <= k -> S k = false) (hn : n <= 16 + X.ns)
  (hKD : ∀ W, Below base w W -> ∃ kv, W.cell? ⟨gb, ((go + 1 : Nat) : Nat), none⟩ = some kv /\ ∀ k, k < n -> ∃ kA kc, kv = .slice (some kA) n kc /\ W.cell? (kA.add k) = some (.int .u8 (KD k)))
  (hT : ∀ W, Below base w W -> TabX W)
  (hns : X.ns <= 1048560) (hnc : X.nc <= 1048576) (hN : g.nodes.length <= 1048576) (hsz : E.sz + 9 <= 1099511627776) :
  Calls Tryd.prog 40 #[.pointer (some ⟨X.fp, 0, none⟩), .int .i64 (i : Nat)] w fun e w' => zbK base X rest w (.tuple #[]) (E.node X.ns X.res i (zdi KD (zbB n S)) x) e w' := by
 obtain ⟨ho1, ho2⟩ := ok.op1;have hil := (List.getElem?_eq_some_iff.1 hx).1
 have hi : i < 1048576 := by omega
 have ix : ∀ {p : Int}, 0 <= p /\ p < (g.kinds.length : Int) -> p = ((p.toNat : Nat) : Int) /\ p.toNat < 16 + X.ns := fun h => by omega
 unfold EmS.node
 by_cases q1 : x.op = 1
 ·rw [if_pos q1];obtain ⟨d1, d2⟩ := ix (ok.d (by omega));exact zjc h hga hG hx q1 _ d1 d2 hi64 hns hi hsz
 rw [if_neg q1]
 by_cases q2 : x.op = 2
 ·rw [if_pos q2];obtain ⟨d1, d2⟩ := ix (ok.d (by omega));obtain ⟨a1, a2⟩ := ix (ok.a (by omega));exact zkh h hga hG hx q2 _ _ d1 a1 d2 a2 hns hi hsz
 rw [if_neg q2]
 by_cases q3 : x.op = 3
 ·rw [if_pos q3];obtain ⟨d1, d2⟩ := ix (ok.d (by omega));obtain ⟨a1, a2⟩ := ix (ok.a (by omega));obtain ⟨b1, b2⟩ := ix (ok.b (by omega));have hy := ok.by_ q3;exact zlj h hga hG hx q3 x.byo.toNat _ _ _ (by omega) (by omega) (by omega) d1 a1 b1 d2 a2 b2 hns hi hsz
 rw [if_neg q3]
 by_cases q4 : x.op = 4
 ·rw [if_pos q4];obtain ⟨d1, d2⟩ := ix (ok.d (by omega));have hcl := ok.cell (by omega);exact zlh h hga hG hx q4 _ _ d1 (show x.cell = ((x.cell.toNat : Nat) : Int) by omega) d2 (by omega) hnc hns hi hsz
 rw [if_neg q4]
 by_cases q5 : x.op = 5
 ·rw [if_pos q5];obtain ⟨a1, a2⟩ := ix (ok.a (by omega));have hcl := ok.cell (by omega);exact zlc h hga hG hx q5 _ _ a1 (show x.cell = ((x.cell.toNat : Nat) : Int) by omega) a2 (by omega) hnc hns hi hsz
 rw [if_neg q5]
 by_cases q6 : x.op = 6
 ·rw [if_pos q6];obtain ⟨d1, d2⟩ := ix (ok.d (by omega));have hcl := ok.cell (by omega);exact zkl h hga hG hx q6 _ _ d1 (show x.cell = ((x.cell.toNat : Nat) : Int) by omega) d2 (by omega) hnc hns hi hsz
 rw [if_neg q6]
 by_cases q7 : x.op = 7
 ·rw [if_pos q7];obtain ⟨d1, d2⟩ := ix (ok.d (by omega));obtain ⟨a1, a2⟩ := ix (ok.a (by omega));exact zki h hga hG hx q7 _ _ d1 a1 d2 a2 hns hi hsz
 rw [if_neg q7]
 by_cases q8 : x.op = 8
 ·rw [if_pos q8];obtain ⟨a1, a2⟩ := ix (ok.a (by omega));obtain ⟨b1, b2⟩ := ix (ok.b (by omega));exact zi9 h hga hG hx q8 _ _ a1 b1 a2 b2 hns hi hsz
 rw [if_neg q8]
 by_cases q9 : x.op = 9
 ·rw [if_pos q9];obtain ⟨a1, a2⟩ := ix (ok.a (by omega));have ht := ok.next _ (zik q9);exact zh5 h hga hG hx q9 _ _ a1 (show x.els = ((x.els.toNat : Nat) : Int) by omega) (by omega) a2 hns hi hsz
 rw [if_neg q9]
 by_cases q10 : x.op = 10
 ·rw [if_pos q10];have ht := ok.next _ (zgB (zlb q10));exact zlg h hga hG hx q10 _ (show x.next = ((x.next.toNat : Nat) : Int) by omega) (by omega) hns hi hsz
 rw [if_neg q10]
 by_cases q11 : x.op = 11
 ·rw [if_pos q11];have hf := ok.f (.inl q11);exact zkk h hga hG hx q11 _ (show x.f = ((x.f.toNat : Nat) : Int) by omega) (by omega) hP hS hn hKD hT hns hi hsz
 rw [if_neg q11]
 by_cases q12 : x.op = 12
 ·rw [if_pos q12]
  by_cases ha : x.a < 0
  ·rw [if_pos ha];exact zli h hga hG hx q12 ha hns hi hsz
  ·rw [if_neg ha];obtain ⟨a1, a2⟩ := ix ((ok.ret q12).elim (fun h => by omega) (fun h => h.2));exact zld h hga hG hx q12 _ a1 a2 hns hi hsz
 rw [if_neg q12]
 by_cases q13 : x.op = 13
 ·rw [if_pos q13];have hf := ok.f (.inr q13);exact zjb h hga hG hx q13 _ (show x.f = ((x.f.toNat : Nat) : Int) by omega) (by omega) hns hi hsz
 rw [if_neg q13]
 by_cases q14 : x.op = 14
 ·rw [if_pos q14];obtain ⟨a1, a2⟩ := ix (ok.a (by omega));exact zja h hga hG hx q14 _ a1 a2 hns hi hsz
 rw [if_neg q14]
 by_cases q15 : x.op = 15
 ·rw [if_pos q15];obtain ⟨d1, d2⟩ := ix (ok.d (by omega));obtain ⟨e1, e2⟩ := ix (ok.e q15);exact zhf h hga hG hx q15 _ _ d1 e1 d2 e2 hns hi hsz
 rw [if_neg q15]
 by_cases q16 : x.op = 16
 ·rw [if_pos q16];obtain ⟨d1, d2⟩ := ix (ok.d (by omega));exact zmn h hga hG hx q16 _ d1 d2 hns hi hsz
 rw [if_neg q16]
 by_cases q17 : x.op = 17
 ·rw [if_pos q17];obtain ⟨a1, a2⟩ := ix (ok.a (by omega));exact zle h hga hG hx q17 _ a1 a2 hns hi hsz
 rw [if_neg q17];obtain ⟨a1, a2⟩ := ix (ok.a (by omega));exact zkj h hga hG hx (by omega) _ a1 a2 hns hi hsz
end
theorem zb5 (E : EmS) (m : zaw) : (E.put [m]).sz = E.sz + 1 := by rw [zbe]; rfl
def EmS.saves (E : EmS) (l : List Mv) : EmS := l.foldl (fun E s => E.store s.2 s.1.toNat) E
def EmS.clear (E : EmS) (l : List Int) : EmS := l.foldl (fun E o => E.store o 13) E
def EmS.inits (E : EmS) (ns : Nat) (l : List Int) : EmS := (l.zipIdx).foldl (fun E p => if 0 <= p.1 then E.store (8 * ((ns : Int) + p.1)) p.2 else E) E
def EmS.begin (E : EmS) (X : EmX) (init : List Int) : EmS :=
 let E1 := (E.put [⟨11, 0, 0, 0, w32 X.size⟩]).saves X.saves
 let E2 := if X.ns + X.nc = 0 then E1 else E1.number 13 0
 (E2.clear (zaL 0 (X.ns + X.nc))).inits X.ns init
theorem zgr (l : List Mv) : ∀ E : EmS, (E.saves l).sz = E.sz + l.length := by
 induction l with
 | nil => intro E; rfl
 | cons s l ih => intro E; show ((E.store s.2 s.1.toNat).saves l).sz = _; rw [ih, zcB, List.length_cons]; omega
theorem zgt (l : List Int) : ∀ E : EmS, (E.clear l).sz = E.sz + l.length := by
 induction l with
 | nil => intro E; rfl
 | cons s l ih => intro E; show ((E.store s 13).clear l).sz = _; rw [ih, zcB, List.length_cons]; omega
theorem zi1 (E : EmS) (l : List Mv) (s : Mv) : E.saves (l ++ [s]) = (E.saves l).store s.2 s.1.toNat := by unfold EmS.saves; rw [List.foldl_append]; rfl
theorem zjD (E : EmS) (l : List Int) (o : Int) : E.clear (l ++ [o]) = (E.clear l).store o 13 := by unfold EmS.clear; rw [List.foldl_append]; rfl
theorem zeM (E : EmS) (ns : Nat) (l : List Int) (c : Int) : E.inits ns (l ++ [c]) = if 0 <= c then (E.inits ns l).store (8 * ((ns : Int) + c)) l.length else E.inits ns l := by
 unfold EmS.inits;rw [List.zipIdx_append, List.foldl_append];simp
theorem zit (ns : Nat) (l : List Int) (E : EmS) : (E.inits ns l).sz <= E.sz + l.length := by
 suffices h : ∀ n, n <= l.length -> (E.inits ns (l.take n)).sz <= E.sz + n by
  have := h l.length (Nat.le_refl _)
  rwa [List.take_length] at this
 intro n
 induction n with
 | zero => intro _; rw [List.take_zero]; exact Nat.le_refl _
 | succ n ih =>
  intro hn;have h1 := ih (by omega);rw [List.take_add_one, List.getElem?_eq_getElem (by omega), Option.toList_some, zeM]
  split
  ·rw [zcB]; omega
  ·omega
section
variable {w : World} {base : Nat} {X : EmX} {E : EmS} {rest : List It}
theorem zaz.save (h : zaz w base X E rest) {j : Nat} {s : Mv} (hj : X.saves[j]? = some s) : ∃ ad c, X.svv = .slice (some ad) X.saves.length c /\ w.cell? (ad.add (j * 2)) = some (.int .i64 s.1) /\ w.cell? ⟨(ad.add (j * 2)).block, (ad.add (j * 2)).off + 1, none⟩ = some (.int .i64 s.2) := by
 obtain ⟨cv, sv, zv, nv, Mc, J, L, lvs, _, hI⟩ := h;have ho := hI.own (i := 10) rfl;obtain ⟨A, c, hv, _, _, hR⟩ := zak ho;have hl := (List.getElem?_eq_some_iff.1 hj).1;obtain ⟨hlen, hA⟩ := hR;obtain ⟨ad, rfl, _, hc⟩ := hA (by omega);obtain ⟨g0, g1⟩ := zfx _ _ _ hj;exact ⟨ad, c, hv, hc _ _ g0, by rw [zdT _ _ _ (by omega)]; exact hc _ _ g1⟩
theorem zg1 (o a b : Nat) : zaL o (a + b) = zaL o a ++ zaL (o + a) b := by
 unfold zaL;rw [List.range_add, List.map_append, List.map_map]
 congr 1
 refine List.map_congr_left fun i _ => ?_
 show _ = _;rw [Nat.add_assoc]; rfl
theorem zlR {gb go : Nat} {g : zad} (h : zaz w base X E rest) (hga : X.ga = ⟨gb, (go : Nat), none⟩) (hG : GrF w base gb go g) (hinit : ∀ c ∈ g.init, c < X.nc) (hil : g.init.length <= 1048576) (hsv : ∀ s ∈ X.saves, 0 <= s.1) (hsl : X.saves.length <= 1048576)
  (hns : X.ns <= 1048560) (hnc : X.nc <= 1048576) (hsz : E.sz + 8388608 <= 1099511627776) :
  Calls Tryd.prog 39 #[.pointer (some ⟨X.fp, 0, none⟩)] w fun e w' => zbK base X rest w (.tuple #[]) (E.begin X g.init) e w' := by
 obtain ⟨iI, hiI, iz0, iz1, iz2⟩ := info_parts zdk;obtain ⟨R, hR⟩ := mn (E.begin X g.init);rw [hR];unfold EmS.begin at hR;obtain ⟨f0, _, f2, _⟩ := h.fn;obtain ⟨o, ho⟩ := mn (w32 X.size);have how : IntKind.i32.wrap X.size = o := ho;rw [ho] at hR;have hfpl := h.fpb.2.1;have hput := za6 ((h.drew).alloc (.cells #[.int .u8 11, .int .i64 0, .int .i64 0, .int .i64 0, .int .i32 o] 71)) (ms := [⟨11, 0, 0, 0, o⟩]) (c := 1) (zal.newS _ rfl _ _ _ _ _ rfl rfl) rfl (by omega);have hb1 := ((Below.refl base w).drew).alloc h.drew.size (.cells #[.int .u8 11, .int .i64 0, .int .i64 0, .int .i64 0, .int .i32 o] 71);obtain ⟨H, Hga, HG, Hinit, Hsv, HR, Hput, Hb1⟩ := hd8 h hga hG hinit hsv hR hput hb1;have Ho := Lib.hid ho;clear ho hb1 hput hR hsv hinit hG hga h;go_enter Tryd.func39, Tryd.ntmps39;go_upto_region 0 with fail;refine zaf (S := fun W => W.cell? ⟨X.fp, 0, none⟩ = some (.pointer (some ⟨X.ep, 0, none⟩)) /\ W.cell? ⟨X.fp, 2, none⟩ = some (.int .i64 X.size)) #[false, false, false, false, false, false, false, false, false, false, false, false, true] (by kernel_rfl) ⟨f0, f2⟩ (fun hHeld => ?_);refine zaa 0 ?_;refine zaa 1 ?_;refine zaa 2 ?_;refine zaa 3 ?_;refine zaa 4 ?_;refine zaa 5 ?_;refine zaa 6 ?_;refine zaa 7 ?_;refine zaa 8 ?_;refine zaa 9 ?_;refine zaa 10 ?_;refine zag 11 (fun K hK => ?_);go_simp;refine hK.out _ _ ⟨(World.cell?_alloc_lt _ _ ⟨X.fp, 0, none⟩ hfpl).trans f0, (World.cell?_alloc_lt _ _ ⟨X.fp, 2, none⟩ hfpl).trans f2⟩ (fun hHeld2 => ?_);clear hK K hHeld;refine lay ?_;refine zao 12 (fun K hK => ?_);go_simp;refine Hput.out.mono ?_;rintro e w1 ⟨rfl, hE1, hb12⟩;refine hK.out _ _ ?_;clear hK K;refine lay ?_;refine zai (by kernel_rfl) ?_ _;have hb2 := Hb1.out.trans hb12
 have hs1 : (E.put [⟨11, 0, 0, 0, o⟩]).sz = E.sz + 1 := by rw [zbe]; rfl
 obtain ⟨E1, hE1e⟩ := mn (E.put [⟨11, 0, 0, 0, o⟩]);rw [hE1e] at hE1 hs1;have hRR := HR.out;rw [hE1e] at hRR;obtain ⟨_, _, _, _, _, f5, _⟩ := hE1.fn;obtain ⟨cv, sv, zv, nv, Mc, J, L, lvs, _, hI⟩ := id hE1;obtain ⟨SA, sc, hsvv, _⟩ := zak (hI.own (i := 10) rfl);obtain ⟨m, hm⟩ := mn (X.saves.length);rw [hm] at hsvv hsl;rw [hsvv] at f5;clear f0 f2 how hHeld2 hI;obtain ⟨HE1, Hb12, Hb2, HE1e, HRR, Hsvv, Hm⟩ := hd7 hE1 hb12 hb2 hE1e hRR hsvv hm;clear hm hsvv hRR hE1e hb2 hb12 hE1;go_wp2_with fail;clear f5
 go_loopg [27] m (fun gk iv wr => ∃ j : Nat, j + gk = m /\ iv = .int .i64 j /\ Hid (zaz wr base X (E1.saves (X.saves.take j)) rest) /\ Hid (Below base w wr))
 case atStart => exact ⟨0, by omega, rfl, HE1, Hb2⟩
 case round =>
  obtain ⟨j, hj, rfl, hEj, hbj⟩ := hrel
  by_cases hjm : j < m
  ·obtain ⟨s, hs⟩ : ∃ s, X.saves[j]? = some s := ⟨_, List.getElem?_eq_getElem (by rw [Hm.out]; exact hjm)⟩
   obtain ⟨r, hr⟩ : ∃ r : Nat, s.1 = (r : Int) := ⟨s.1.toNat, by have := Hsv.out s (List.mem_of_getElem? hs); omega⟩
   obtain ⟨ad, c, hsa, k0, k1⟩ := hEj.out.save hs;rw [Hsvv.out, Hm.out] at hsa;injection hsa with h1 _ h2;subst h1;subst h2;rw [hr] at k0
   have hji : (j : Int) < m := by omega
   have htk : X.saves.take (j + 1) = X.saves.take j ++ [s] := by rw [List.take_add_one, hs]; rfl
   have hsn := zi1 E1 (X.saves.take j) s;rw [<- htk, show s.1.toNat = r by omega] at hsn;obtain ⟨so, hso⟩ := mn (s.2);rw [hso] at k1 hsn
   have htl : (X.saves.take j).length <= m := by rw [List.length_take]; omega
   have hst := zcQ (hEj.out.alloc (.cells #[.int .i64 (r : Nat), .int .i64 so] 50)) so r (by rw [zgr]; omega);have hbs := hbj.out.alloc hEj.out.size (.cells #[.int .i64 (r : Nat), .int .i64 so] 50);obtain ⟨Hs, Hr, Htk, Hsn, Hso, Hst, Hbs⟩ := hd7 hs hr htk hsn hso hst hbs;clear hbs hst hso hsn htk hr hs;go_wp2_with fail;refine Hst.out.mono ?_;rintro e w3 ⟨rfl, hE3, hb3⟩;have hbn := Hbs.out.trans hb3;rw [<- Hsn.out] at hE3;clear k0 k1;obtain ⟨HE3, Hb3, Hbn⟩ := hd3 hE3 hb3 hbn;clear hbn hb3 hE3;go_wp2_with fail
   go_roundg (gk - 1)
   case measure => omega
   case rel => exact ⟨j + 1, by omega, by simp, HE3, Hbn⟩
  ·obtain rfl : j = m := by omega
   have hji : ¬ (j : Int) < j := by omega
   have hEj2 := hEj.out;rw [List.take_of_length_le (by rw [Hm.out]; exact Nat.le_refl _)] at hEj2;have HEj2 := Lib.hid hEj2;clear hEj2;go_upto_region 6 with fail
   have hs2 : (E1.saves X.saves).sz = E1.sz + j := by rw [zgr, Hm.out]
   obtain ⟨E2, hE2e⟩ := mn (E1.saves X.saves);have hE2 := HEj2.out;have hRR2 := HRR.out;rw [hE2e] at hE2 hs2 hRR2;obtain ⟨_, _, _, f3, f4, _⟩ := hE2.fn;obtain ⟨cv, sv, zv, nv, Mc, J, L, lvs, _, hI⟩ := id hE2;have oS := hI.own (i := 8) rfl;have oC := hI.own (i := 9) rfl;obtain ⟨TA, tc, hsl8, _⟩ := zak oS;obtain ⟨CA, cc, hcl9, _⟩ := zak oC;rw [hsl8] at f3;rw [hcl9] at f4;obtain ⟨M, hM⟩ := mn (X.ns + X.nc);have hRR3 := hRR2;rw [hM] at hRR3
   have hMw : IntKind.i64.wrap ((X.ns : Int) + X.nc) = (M : Nat) := by rw [IntKind.wrap_i64]; omega
   clear hI oS oC;obtain ⟨HE2, HRR2, HE2e, Hsl8, Hcl9, HRR3, HM⟩ := hd7 hE2 hRR2 hE2e hsl8 hcl9 hRR3 hM;clear hM hRR3 hcl9 hsl8 hE2e hRR2 hE2;refine zaf (S := fun W => W.cell? ⟨X.fp, 3, none⟩ = some (.slice TA X.ns tc) /\ W.cell? ⟨X.fp, 4, none⟩ = some (.slice CA X.nc cc)) #[false, false, false, false, false, false, false, false, false, false, false, false, false, false] (by kernel_rfl) ⟨f3, f4⟩ (fun hHeld => ?_);refine zaa 0 ?_;refine zaa 1 ?_;refine zaa 2 ?_;refine zaa 3 ?_;refine zaa 4 ?_;refine zaa 5 ?_;refine zaa 6 ?_;refine zaa 7 ?_;refine zaa 8 ?_;refine zaa 9 ?_;refine zaa 10 ?_;refine zaa 11 ?_;refine zaa 12 ?_;refine zaa 13 ?_;refine zai (by kernel_rfl) ?_ _;clear hHeld;obtain ⟨f0, _⟩ := HE2.out.fn;have hb3 := hbj.out.drew;have hE3 := HE2.out.drew;obtain ⟨w3, hw3⟩ := nm (wr.drew)
   have hf0 : w3.cell? ⟨X.fp, 0, none⟩ = some (.pointer (some ⟨X.ep, 0, none⟩)) := by rw [hw3]; exact f0
   have hf3 : w3.cell? ⟨X.fp, 3, none⟩ = some (.slice TA X.ns tc) := by rw [hw3]; exact f3
   have hf4 : w3.cell? ⟨X.fp, 4, none⟩ = some (.slice CA X.nc cc) := by rw [hw3]; exact f4
   rw [<- hw3] at hb3 hE3;rw [<- hw3];clear f0 f3 f4;have Hw3 := Lib.hid hw3;clear hw3
   by_cases hz : M = 0
   case' pos =>
    have hzi : ¬ (0 : Int) < M := by omega
    rw [if_pos hz] at HRR3;obtain ⟨Hb3, HE3⟩ := hd2 hb3 hE3;clear hE3 hb3;go_upto_region 8 with fail;obtain ⟨w4, hw4⟩ := nm (w3);rw [<- hw4];have hE4 := HE3.out;have hb4 := Hb3.out;rw [<- hw4] at hE4 hb4;obtain ⟨E4, hE4e⟩ := nm (E2);rw [<- hE4e] at hE4 HRR3
    have hs4 : E4.sz <= E2.sz + 2 := by rw [hE4e]; omega
    obtain ⟨Hw4, HE4e⟩ := hd2 hw4 hE4e;clear hE4e hw4
   case' neg =>
    have hzi : (0 : Int) < M := by omega
    rw [if_neg hz] at HRR3;have hnum := zer hE3 13 0 (by constructor <;> omega) (by omega);obtain ⟨Hb3, HE3, Hnum⟩ := hd3 hb3 hE3 hnum;clear hnum hE3 hb3;go_wp2_with fail;refine Hnum.out.mono ?_;rintro e w4 ⟨rfl, hE4, hb34⟩;go_upto_region 8 with fail;have hb4 := Hb3.out.trans hb34;have hs4 := zcr E2 13 0;obtain ⟨E4, hE4e⟩ := nm (E2.number 13 0);rw [<- hE4e] at hE4 HRR3 hs4;obtain ⟨HE4e, Hb34⟩ := hd2 hE4e hb34;clear hb34 hE4e
   all_goals
    clear hf0 hf3 hf4 hz hzi;obtain ⟨_, _, _, f3, f4, _⟩ := hE4.fn;rw [Hsl8.out] at f3;rw [Hcl9.out] at f4;have hz4 := hE4.size
    have oS : w4.ownsRow base 3 1 (.slice TA X.ns tc) X.ns ((zaL 0 X.ns).map (Value.int .i64)) := by
     obtain ⟨cv, sv, zv, nv, Mc, J, L, lvs, _, hI⟩ := hE4;have := hI.own (i := 8) rfl;rw [Hsl8.out] at this;exact this
    have hmM : X.ns + X.nc = M := HM.out;obtain ⟨HE4, Hb4, HoS, HmM⟩ := hd4 hE4 hb4 oS hmM;clear hmM oS hb4 hE4;refine zaf (S := fun W => W.cell? ⟨X.fp, 3, none⟩ = some (.slice TA X.ns tc) /\ W.cell? ⟨X.fp, 4, none⟩ = some (.slice CA X.nc cc)) #[false, false, false, false, false, false, false, false, false, false, false, false, false, false] (by kernel_rfl) ⟨f3, f4⟩ (fun hHeld => ?_);refine zaa 0 ?_;refine zaa 1 ?_;refine zaa 2 ?_;refine zaa 3 ?_;refine zaa 4 ?_;refine zaa 6 ?_;refine zaa 7 ?_;refine zaa 8 ?_;refine zaa 9 ?_;refine zaa 10 ?_;refine zaa 13 ?_;refine zag 5 (fun K hK => ?_);refine zaB _ rfl (.const (.slice none 0 0)) (.tmp 61) _ rfl base 3 iI _ 1 8 Tryd.underlying40 hiI iz0 iz1 iz2 rfl (by omega) (.slice none 0 0) 0 [] rfl (World.ownsRow_nil _ _ _ _) w4.heap.size TA X.ns tc ((zaL 0 X.ns).map (Value.int .i64)) rfl (zal.of_own HoS.out) ?c1 ?c2 ?c3 ?c4 ?_
    case c1 => intro u hu; obtain ⟨z, _, rfl⟩ := List.mem_map.1 hu; rfl
    case c2 => simp only [maxLen]; omega
    case c3 => omega
    case c4 => simp; omega
    intro v5 w5 hown5 hg5 hat5;rw [Nat.zero_add, List.nil_append] at hown5;obtain ⟨A5, c5, rfl, _⟩ := zak hown5
    have hE5 := HE4.out.drew.extend (x := .row (.slice A5 X.ns c5) 3 1 X.ns ((zaL 0 X.ns).map (Value.int .i64))) hg5 hown5 (fun b e => by
     rcases hat5 with e1 | e1
     ·rw [show It.block (.row (.slice A5 X.ns c5) 3 1 X.ns ((zaL 0 X.ns).map (Value.int .i64))) = (Value.slice A5 X.ns c5).ownBlock from rfl, e1] at e; cases e
     ·rw [show It.block (.row (.slice A5 X.ns c5) 3 1 X.ns ((zaL 0 X.ns).map (Value.int .i64))) = (Value.slice A5 X.ns c5).ownBlock from rfl, e1] at e; injection e with e; omega)
    have hb5 := (Hb4.out.drew).grown hg5 (by simp; omega) (fun b e => by cases e);obtain ⟨_, _, _, y3, y4, _⟩ := hE5.fn;rw [Hsl8.out] at y3;rw [Hcl9.out] at y4;have hz5 := hE5.size
    have oC : w5.ownsRow base 3 1 (.slice CA X.nc cc) X.nc ((zaL X.ns X.nc).map (Value.int .i64)) := by
     obtain ⟨cv, sv, zv, nv, Mc, J, L, lvs, _, hI⟩ := hE5;have := hI.own (i := 9) rfl;rw [Hcl9.out] at this;exact this
    refine hK.out _ _ ⟨y3, y4⟩ (fun hHeld2 => ?_);clear hK K hHeld;obtain ⟨HE5, Hb5, HoC, Hown5, Hg5, Hat5⟩ := hd6 hE5 hb5 oC hown5 hg5 hat5;clear hat5 hg5 hown5 oC hb5 hE5;refine lay ?_;refine zag 11 (fun K hK => ?_);refine zaB _ rfl (.tmp 62) (.tmp 67) _ rfl base 3 iI _ 1 8 Tryd.underlying40 hiI iz0 iz1 iz2 rfl (by omega) (.slice A5 X.ns c5) X.ns ((zaL 0 X.ns).map (Value.int .i64)) rfl HE5.out.own w5.heap.size CA X.nc cc ((zaL X.ns X.nc).map (Value.int .i64)) rfl (zal.of_own HoC.out) ?c1 ?c2 ?c3 ?c4 ?_
    case c1 => intro u hu; obtain ⟨z, _, rfl⟩ := List.mem_map.1 hu; rfl
    case c2 => simp only [maxLen]; omega
    case c3 => omega
    case c4 => omega
    intro v6 w6 hown6 hg6 hat6;rw [<- List.map_append, show zaL 0 X.ns ++ zaL X.ns X.nc = zaL 0 (X.ns + X.nc) by rw [zg1, Nat.zero_add], HmM.out] at hown6;obtain ⟨A6, c6, rfl, _⟩ := zak hown6
    have hE6 := HE5.out.pushFirst hown6 hg6 (by
     rcases hat6 with e | e
     ·exact .inl e
     ·exact .inr fun b hb => by rw [e] at hb; injection hb with hb; omega)
    have hb6 := Hb5.out.grown hg6 hz5 (fun b e => (HE5.out.own.lt b e).1);obtain ⟨_, _, _, z3, z4, _⟩ := hE6.fn;rw [Hsl8.out] at z3;rw [Hcl9.out] at z4;refine hK.out _ _ ⟨z3, z4⟩ (fun hHeld3 => ?_);clear hK K hHeld2;obtain ⟨HE6, Hb6, Hown6, Hg6, Hat6⟩ := hd5 hE6 hb6 hown6 hg6 hat6;clear hat6 hg6 hown6 hb6 hE6;refine lay ?_;refine zaa 12 ?_;refine zai (by kernel_rfl) ?_ _;clear y3 y4 z3 z4 f3 f4 hHeld3
    have hMl : M <= 2097152 := by have := HmM.out; omega
    go_wp2_with fail
    go_loopg [70] M (fun gk iv wr => ∃ j2 : Nat, j2 + gk = M /\ iv = .int .i64 j2 /\ Hid (zaz wr base X (E4.clear ((zaL 0 M).take j2)) (.row (.slice A6 M c6) 3 1 M ((zaL 0 M).map (Value.int .i64)) :: rest)) /\ Hid (Below base w wr))
    case atStart => exact ⟨0, by omega, rfl, HE6, Hb6⟩
    case round =>
     obtain ⟨j2, hj2, rfl, hEq, hbq⟩ := hrel
     by_cases hjm2 : j2 < M
     ·obtain ⟨ad2, u, hA, _, hu, hcu⟩ := (zal.of_own hEq.out.own).at_ hjm2;subst hA
      obtain ⟨v, hv⟩ : ∃ v, (zaL 0 M)[j2]? = some v := ⟨_, List.getElem?_eq_getElem (by rw [zdJ]; exact hjm2)⟩
      have hu2 : u = .int .i64 v := by
       rw [List.getElem?_map, hv] at hu;injection hu with hu;exact hu.symm
      subst hu2
      have hji2 : (j2 : Int) < M := by omega
      have htk2 : (zaL 0 M).take (j2 + 1) = (zaL 0 M).take j2 ++ [v] := by rw [List.take_add_one, hv]; rfl
      have hsn2 := zjD E4 ((zaL 0 M).take j2) v;rw [<- htk2] at hsn2
      have htl2 : ((zaL 0 M).take j2).length <= M := by rw [List.length_take]; omega
      have hst := zcQ hEq.out v 13 (by rw [zgt]; omega);obtain ⟨Hv, Hu, Htk2, Hsn2, Hst⟩ := hd5 hv hu htk2 hsn2 hst;clear hst hsn2 htk2 hu hv;go_wp2_with fail;refine Hst.out.mono ?_;rintro e w7 ⟨rfl, hE7, hb7⟩;have hbn2 := hbq.out.trans hb7;rw [<- Hsn2.out] at hE7;clear hcu;obtain ⟨HE7, Hb7, Hbn2⟩ := hd3 hE7 hb7 hbn2;clear hbn2 hb7 hE7;go_wp2_with fail
      go_roundg (gk - 1)
      case measure => omega
      case rel => exact ⟨j2 + 1, by omega, by simp, HE7, Hbn2⟩
     ·obtain rfl : j2 = M := by omega
      have hji2 : ¬ (j2 : Int) < j2 := by omega
      have hEq2 := hEq.out.drop;rw [List.take_of_length_le (by rw [zdJ]; exact Nat.le_refl _)] at hEq2
      have hs5 : (E4.clear (zaL 0 j2)).sz = E4.sz + j2 := by rw [zgt, zdJ]
      obtain ⟨E5, hE5e⟩ := mn (E4.clear (zaL 0 j2));rw [hE5e] at hEq2 hs5 HRR3;obtain ⟨_, f1, _⟩ := hEq2.fn;rw [Hga.out] at f1;obtain ⟨hglt, pv, kv, iv, nv, hgc, _, _, hI, _⟩ := HG.out;obtain ⟨IA, ic, hiv, _, _, hIR⟩ := hI.slice;subst hiv;obtain ⟨il, hil2⟩ := mn (g.init.length);rw [hil2] at hil;have c3 := (hbq.out.cell (p := ⟨gb, go + 3, none⟩) hglt).trans (hgc 3 _ rfl);rw [hil2] at c3;obtain ⟨HEq2, HE5e, Hgc, HIR, Hil2⟩ := hd5 hEq2 hE5e hgc hIR hil2;clear hil2 hIR hgc hE5e hEq2;go_wp2_with fail;clear c3 f1
      go_loopg [86] il (fun gk iv wr => ∃ j3 : Nat, j3 + gk = il /\ iv = .int .i64 j3 /\ Hid (zaz wr base X (E5.inits X.ns (g.init.take j3)) rest) /\ Hid (Below base w wr))
      case atStart => exact ⟨0, by omega, rfl, HEq2, hbq⟩
      case round =>
       obtain ⟨j3, hj3, rfl, hEr, hbr⟩ := hrel
       by_cases hjm3 : j3 < il
       ·obtain ⟨ad3, u3', hA3, _, hu3, hcu3⟩ := (HIR.out.keep fun _ hp => hbr.out.cell hp).at_ (by rw [Hil2.out]; exact hjm3);subst hA3
        obtain ⟨c, hc⟩ : ∃ c, g.init[j3]? = some c := ⟨_, List.getElem?_eq_getElem (by rw [Hil2.out]; exact hjm3)⟩
        have hu4 : u3' = .int .i64 c := by
         rw [List.getElem?_map, hc] at hu3;injection hu3 with hu3;exact hu3.symm
        subst hu4
        have hji3 : (j3 : Int) < il := by omega
        have hcn := Hinit.out c (List.mem_of_getElem? hc)
        have htk3 : g.init.take (j3 + 1) = g.init.take j3 ++ [c] := by rw [List.take_add_one, hc]; rfl
        have hsn3 := zeM E5 X.ns (g.init.take j3) c
        have hlen3 : (g.init.take j3).length = j3 := by rw [List.length_take, Hil2.out]; omega
        rw [<- htk3, hlen3] at hsn3
        by_cases hc0 : 0 <= c
        ·rw [if_pos hc0] at hsn3
         obtain ⟨k, rfl⟩ : ∃ k : Nat, c = (k : Int) := ⟨c.toNat, by omega⟩
         obtain ⟨_, _, _, _, f4, _⟩ := hEr.out.fn;obtain ⟨sd, sc2, hsl2, hsc⟩ := hEr.out.cellOff (k := k) (by omega);rw [hsl2] at f4;obtain ⟨q, hq⟩ := mn (X.ns + k);rw [hq] at hsc;rw [show (X.ns : Int) + k = (q : Nat) by omega] at hsn3;have hkX : (k : Int) < X.nc := hcn;have hsz3 := zit X.ns (g.init.take j3) E5;rw [hlen3] at hsz3;have hst := zcQ hEr.out (8 * (q : Int)) j3 (by omega);obtain ⟨Hc, Hu3, Htk3, Hsn3, Hlen3, Hst, Hq, Hsl2⟩ := hd8 hc hu3 htk3 hsn3 hlen3 hst hq hsl2;have Hsz3 := Lib.hid hsz3;clear hsz3 hsl2 hq hst hlen3 hsn3 htk3 hu3 hc;go_wp2_with fail;refine Hst.out.mono ?_;rintro e w8 ⟨rfl, hE8, hb8⟩;have hbn3 := hbr.out.trans hb8;rw [<- Hsn3.out] at hE8;clear f4 hsc hcu3;obtain ⟨HE8, Hb8, Hbn3⟩ := hd3 hE8 hb8 hbn3;clear hbn3 hb8 hE8;go_wp2_with fail
         go_roundg (gk - 1)
         case measure => omega
         case rel => exact ⟨j3 + 1, by omega, by simp, HE8, Hbn3⟩
        ·rw [if_neg hc0] at hsn3;have hEs := hEr.out;rw [<- hsn3] at hEs;obtain ⟨Hc, Hu3, Htk3, Hsn3, Hlen3, HEs⟩ := hd6 hc hu3 htk3 hsn3 hlen3 hEs;clear hEs hlen3 hsn3 htk3 hu3 hc;go_wp2_with fail
         go_roundg (gk - 1)
         case measure => omega
         case rel => exact ⟨j3 + 1, by omega, by simp, HEs, hbr⟩
       ·obtain rfl : j3 = il := by omega
        have hji3 : ¬ (j3 : Int) < j3 := by omega
        have hEr2 := hEr.out;rw [List.take_of_length_le (by rw [Hil2.out]; exact Nat.le_refl _), HRR3.out] at hEr2;have HEr2 := Lib.hid hEr2;clear hEr2;go_wp2_with fail;go_end0;exact ⟨rfl, HEr2.out, hbr.out⟩
end
def EmS.panics (E : EmS) (label n : Nat) (v : Int) : EmS := if n = 0 then E else ((E.mark label).number 13 v).put [⟨13, 0, 13, 0, 5⟩]
section
variable {w : World} {base : Nat} {X : EmX} {E : EmS} {rest : List It}
theorem zbS (h : zaz w base X E rest) (label n c : Nat) (A : Option Addr) (v : Int) (hl : label < 4611686018427387904) (hv : U64 v) (hsz : E.sz + 4 <= 1099511627776) :
  Calls Tryd.prog 78 #[.pointer (some ⟨X.fp, 0, none⟩), .int .i64 (label : Nat), .slice A n c, .int .u64 v] w fun e w' => zbK base X rest w (.tuple #[]) (E.panics label n v) e w' := by
 obtain ⟨R, hR⟩ := mn (E.panics label n v);rw [hR];unfold EmS.panics at hR
 by_cases hn : n = 0
 ·rw [if_pos hn] at hR
  have hni : ((n : Int) == 0) = true := by simp; omega
  subst hR;have H := Lib.hid h;clear h;go_enter Tryd.func78, Tryd.ntmps78;go_wp2_with fail;go_end0;exact ⟨rfl, H.out, Below.refl _ _⟩
 ·rw [if_neg hn] at hR
  have hni : ((n : Int) == 0) = false := by simp; omega
  have hmk := zba h label hl (by omega);obtain ⟨H, HR, Hmk⟩ := hd3 h hR hmk;clear hmk hR h;go_enter Tryd.func78, Tryd.ntmps78;go_wp2_with fail;refine Hmk.out.mono ?_;rintro e w1 ⟨rfl, hE1, hb1⟩;obtain ⟨f0, _⟩ := hE1.fn;have hnum := zer hE1 13 v hv (by rw [zaJ]; omega);obtain ⟨HE1, Hb1, Hnum⟩ := hd3 hE1 hb1 hnum;clear hnum hb1 hE1;go_wp2_with fail;refine Hnum.out.mono ?_;rintro e w2 ⟨rfl, hE2, hb2⟩;obtain ⟨g0, _⟩ := hE2.fn;have hbb := Hb1.out.trans hb2;have hput := za6 (hE2.alloc (.cells #[.int .u8 13, .int .i64 0, .int .i64 13, .int .i64 0, .int .i32 5] 71)) (ms := [⟨13, 0, 13, 0, 5⟩]) (c := 1) (zal.newS _ rfl _ _ _ _ _ rfl rfl) rfl (by have := zcr (E.mark label) 13 v; rw [zaJ] at this; omega);have hb3 := hbb.alloc hE2.size (.cells #[.int .u8 13, .int .i64 0, .int .i64 13, .int .i64 0, .int .i32 5] 71);clear f0;obtain ⟨HE2, Hb2, Hbb, Hput, Hb3⟩ := hd5 hE2 hb2 hbb hput hb3;clear hb3 hput hbb hb2 hE2;go_wp2_with fail;refine Hput.out.mono ?_;rintro e w3 ⟨rfl, hE3, hb4⟩;have hfin := Hb3.out.trans hb4;rw [HR.out] at hE3;clear g0;obtain ⟨HE3, Hb4, Hfin⟩ := hd3 hE3 hb4 hfin;clear hfin hb4 hE3;go_wp2_with fail;go_end0;exact ⟨rfl, HE3.out, Hfin.out⟩
end
def EmS.fetch (E : EmS) (l : List Mv) : EmS := l.foldl (fun E s => E.put [⟨4, s.1.toNat, 14, 0, w32 s.2⟩]) E
def EmS.leave (E : EmS) (X : EmX) (result : Bool) : EmS :=
 let E1 := E.mark 1048576
 let E2 := if X.defers then E1.put [⟨13, 0, 0, 0, 8⟩] else E1
 let E3 := if result then E2.put [⟨4, 0, 14, 0, w32 X.res⟩] else E2
 (E3.fetch X.saves).put [⟨12, 0, 0, 0, w32 X.size⟩, ⟨10, 0, 0, 0, 0⟩]
def EmS.resume (E : EmS) (X : EmX) (result : Bool) (keep : Int) : EmS :=
 let E1 := if result then (if 0 <= keep then E.put [⟨4, 13, 14, 0, w32 (8 * ((X.ns : Int) + keep))⟩] else E.number 13 0).store X.res 13 else E
 E1.jump 7 0 1048576
def EmS.end_ (E : EmS) (X : EmX) (result : Bool) (keep : Int) : EmS :=
 let E1 := E.leave X result
 let E2 := if X.defers then E1.resume X result keep else E1
 (E2.panics 1048577 E2.zeros.length 18446744073709551615).panics 1048578 E2.nulls.length 18446744073709551614
def EmS.resumeAt (E : EmS) (X : EmX) (result : Bool) : Int := if X.defers then ((E.leave X result).code.length : Nat) else -1
theorem zb6 (l : List Mv) : ∀ E : EmS, (E.fetch l).sz = E.sz + l.length := by
 induction l with
 | nil => intro E; rfl
 | cons s l ih => intro E; show ((E.put [⟨4, s.1.toNat, 14, 0, w32 s.2⟩]).fetch l).sz = _; rw [ih, zbe]; simp only [List.length_cons, List.length_nil]; omega
theorem zc9 (E : EmS) (l : List Mv) (s : Mv) : E.fetch (l ++ [s]) = (E.fetch l).put [⟨4, s.1.toNat, 14, 0, w32 s.2⟩] := by unfold EmS.fetch; rw [List.foldl_append]; rfl
end Go.Proofs.YtnfjjliiajaijaaDoor
