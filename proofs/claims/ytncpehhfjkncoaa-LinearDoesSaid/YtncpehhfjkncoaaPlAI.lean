/- The back part of a row of numbers of the call's own, and append onto it. No condition. Walk of the checker's question whether arguments fit a function. Conditions: checker and node lie in memory, the functions' parameters are places. Walks of once and of the document's In, add. Conditions: the lists lie in memory. -/
import Derived.Test.YtncpehhfjkncoaaPlAB
import Derived.Test.YtncpehhfjkncoaaPlAA
import Derived.BigQuiet
import Derived.Deep.QuietTactic
import Derived.Deep.DeepCutAuto
set_option linter.unusedVariables false
set_option linter.unusedSimpArgs false
set_option maxRecDepth 100000
set_option maxHeartbeats 16000000
namespace Go.Proofs.Ytncpehhfjkncoaa
open Go.RowKit

/-- v is the back part of a row of the call's own; it holds xs -/
def Tail (w : World) (base : Nat) (e : TypeId) (v : Value) (xs : List Value) : Prop :=
 ∃ (dead : List Value) (g k n c C : Nat), v = .slice (some ⟨g, k, none⟩) n c /\ w.ownsRow base e 1 (.slice (some ⟨g, 0, none⟩) (k + n) C) (k + n) (dead ++ xs) /\ dead.length = k /\ xs.length = n /\ n <= c /\ k + c <= C
section
variable {w w' : World} {base : Nat} {e : TypeId} {v : Value} {xs : List Value}
theorem Tail.of_own {g n c : Nat} (h : w.ownsRow base e 1 (.slice (some ⟨g, 0, none⟩) n c) n xs) : Tail w base e (.slice (some ⟨g, 0, none⟩) n c) xs := by
 have hl := h.1
 have hc : n <= c := by
  rcases h.2 with ⟨h0, _⟩ | ⟨g', cap, cur, hv, _, _, h1, _⟩
  ·cases h0
  ·injection hv with _ _ hv; omega
 exact ⟨[], g, 0, n, c, c, rfl, by simpa using h, rfl, by simpa using hl, hc, by omega⟩
theorem Tail.form (h : Tail w base e v xs) : ∃ A c, v = .slice A xs.length c /\ xs.length <= c /\ c <= maxLen /\ Reads w w.heap.size 1 A xs.length xs := by
 obtain ⟨dead, g, k, n, c, C, rfl, h, hd, hx, hc, hC⟩ := h;subst hx;have hR := Reads.of_own h
 have hm : C <= maxLen := by
  rcases h.2 with ⟨h0, _⟩ | ⟨g', cap, cur, hv, _, _, _, h1, _⟩
  ·cases h0
  ·injection hv with _ _ hv; omega
 refine ⟨_, c, rfl, hc, by omega, ⟨by omega, fun hn => ?_⟩⟩;obtain ⟨ad, hA, hb, hcell⟩ := hR.2 (by omega);injection hA with hA;subst hA;refine ⟨_, rfl, hb, fun j u hu => ?_⟩;have := hcell (k + j) u (by rw [List.getElem?_append_right (by omega), hd, Nat.add_sub_cancel_left]; exact hu);rw [Addr.add_lit, Nat.zero_add] at this;rw [Addr.add_lit];exact this
theorem Tail.block (h : Tail w base e v xs) : ∃ g, v.ownBlock = some g /\ base <= g /\ g < w.heap.size := by
 obtain ⟨dead, g, k, n, c, C, rfl, h, _⟩ := h;exact ⟨g, rfl, h.lt g rfl⟩
theorem Tail.kept {row : Option Nat} (h : Tail w base e v xs) (hg : w.grownBy w' row) (hne : v.ownBlock ≠ row) : Tail w' base e v xs := by
 obtain ⟨dead, g, k, n, c, C, rfl, h, h1⟩ := h;exact ⟨dead, g, k, n, c, C, rfl, h.kept hg (.inr hne), h1⟩
theorem Tail.alloc (h : Tail w base e v xs) (o : Obj) : Tail (w.alloc o) base e v xs := by
 obtain ⟨g, hg, _⟩ := h.block;exact h.kept (World.grownBy_alloc w o none) (by rw [hg]; nofun)
/-- the first one is taken away -/
theorem Tail.rest {x : Value} {A : Option Addr} {n c : Nat} (h : Tail w base e (.slice A n c) (x :: xs)) : Tail w base e (.slice (if c = 1 then A else A.map (·.add 1)) (n - 1) (c - 1)) xs := by
 obtain ⟨dead, g, k, n', c', C, hv, h, hd, hx, hc, hC⟩ := h;injection hv with h1 h2 h3;subst h1 h2 h3;simp only [List.length_cons] at hx
 by_cases hc1 : c = 1
 ·rw [if_pos hc1]
  have hn : n = 1 := by omega
  have hxs : xs = [] := List.eq_nil_of_length_eq_zero (by omega);subst hxs hn
  -- the row as it was cut at the front: its last one is dead
  refine ⟨dead, g, k, 0, 0, C, by rw [hc1], ?_, hd, rfl, Nat.le_refl _, by omega⟩
  rcases h.2 with ⟨h0, _⟩ | ⟨g', cap, cur, hv, hb, hh, k1, k2, k3, k4⟩
  ·cases h0
  ·injection hv with hv1 _ hv3;injection hv1 with hv1;injection hv1 with hv1;subst hv1 hv3;refine ⟨by simp [hd], .inr ⟨g, C, cur, rfl, hb, hh, by omega, k2, k3, ?_⟩⟩;have := congrArg (List.take k) k4;rw [List.take_take, List.take_left' hd] at this;rw [List.append_nil, <- this]
   congr 1
   omega
 ·rw [if_neg hc1];refine ⟨dead ++ [x], g, k + 1, n - 1, c - 1, C, ?_, ?_, by simp [hd], by omega, by omega, by omega⟩
  ·simp [Addr.add]
  ·rw [List.append_assoc, List.singleton_append, show k + 1 + (n - 1) = k + n by omega]; exact h
end
section
variable {P : Program} (w : World)
theorem run_append_tail (base : Nat) (t ty e : TypeId) (i : TypeInfo) (z : Value) (bytes : Nat) (ht : P.underlying t = some (.slice e)) (hi : P.info? e = some i) (hz : i.zero = some z)
  (hsize : i.size = 1) (hby : i.bytes = bytes) (hzs : z.cells.size = 1) (v : Value) (xs : List Value) (hown : Tail w base e v xs)
  (a : Addr) (c0 : Nat) (u : Value) (hu : w.cell? a = some u) (h1 : u.oneCell' = true) (h63 : xs.length + 1 <= maxLen) (hbytes : (xs.length + 1) * bytes <= 140737488355328) (hbase : base <= w.heap.size) :
  ∃ v' w', (Builtin.append_ #[t, t] ty #[v, .slice (some a) 1 c0]).run P w = .ok v' w' /\ Tail w' base e v' (xs ++ [u]) /\ w.grownBy w' v.ownBlock /\ (v'.ownBlock = v.ownBlock ∨ v'.ownBlock = some w.heap.size) := by
 obtain ⟨dead, g, k, n, c, C, rfl, h, hd, hx, hc, hC⟩ := hown;subst hby
 have hnews : ∀ j v, [u][j]? = some v -> w.cell? (a.add j) = some v := fun j v hv => by
  match j, hv with
  | 0, hv => simp at hv; subst hv; simpa [Addr.add] using hu
 by_cases hroom : n + 1 <= c
 ·rcases h.2 with ⟨h0, _⟩ | ⟨g', cap, cur, hv, hb, hh, k1, k2, k3, k4⟩
  ·cases h0
  ·injection hv with hv1 _ hv3;injection hv1 with hv1;injection hv1 with hv1;subst hv1 hv3;have hf := run_firstCells_some (P := P) w i.size 1 a 1 c0 [u] (by simp [hsize]) hnews;have hst := run_storeCells_at P g (k + n) e [u] 0 cur w hh (by simp [k3]; omega) (by simpa using h1);simp only [Nat.add_zero] at hst;rw [hsize] at hf;refine ⟨.slice (some ⟨g, k, none⟩) (n + 1) c, w.setRow g (cur.toList.take (k + n) ++ [u] ++ cur.toList.drop (k + n + 1)).toArray, ?_, ⟨dead, g, k, n + 1, c, C, rfl, ⟨by simp only [List.length_append, List.length_singleton, hd, hx]; omega, .inr ⟨g, C, _, rfl, hb, setRow_heap w g cur (cur.toList.take (k + n) ++ [u] ++ cur.toList.drop (k + n + 1)).toArray e _ hh, by omega, k2, ?_, ?_⟩⟩, hd, by simp [hx], hroom, hC⟩, ⟨rfl, rfl, rfl, by simp, fun j _ hj => setRow_other w g j (cur.toList.take (k + n) ++ [u] ++ cur.toList.drop (k + n + 1)).toArray (fun e => hj (by simp [Value.ownBlock, e]))⟩, .inl rfl⟩
   ·simp [Builtin.append_, run_underlying ht, sizeOf, typeInfo, hi, Builtin.lenOf, hroom, hf, Addr.add_lit, hsize]
    have hst' : (storeCells ⟨g, k + n, none⟩ [u]).run P w = .ok () (w.setRow g (List.take (k + n) cur.toList ++ u :: List.drop (k + n + 1) cur.toList).toArray) := by simpa using hst
    rw [hst']
    rfl
   ·simp only [List.size_toArray, List.length_append, List.length_take, List.length_drop, Array.length_toList, k3, List.length_singleton]
    omega
   ·rw [Nat.mul_one] at k4 ⊢;rw [List.toList_toArray, k4, show k + (n + 1) = (dead ++ xs ++ [u]).length by simp only [List.length_append, List.length_singleton, hd, hx]; omega, List.append_assoc dead xs [u]] ;exact List.take_left
 ·have holds : ∀ j v, xs[j]? = some v -> w.cell? ((⟨g, k, none⟩ : Addr).add j) = some v := fun j v hv => by
   obtain ⟨A, c', e', _, _, hR⟩ := Tail.form ⟨dead, g, k, n, c, C, rfl, h, hd, hx, hc, hC⟩;injection e' with e1 e2 e3;obtain ⟨ad, hA, _, hcell⟩ := hR.2 (by have := (List.getElem?_eq_some_iff.1 hv).1; omega);rw [<- e1] at hA;injection hA with hA;subst hA;exact hcell j v hv
  subst hx;have hr := run_append_grow (P := P) w t ty e i z ht hi hz ⟨g, k, none⟩ xs.length c xs (by simp [hsize]) holds a 1 c0 [u] (by simp [hsize]) hnews (by omega) (by simp only [maxLen] at h63; omega) (growslice_fits (by omega) hbytes);have hge := grownCap_ge w (xs.length + 1) c e;have hcm : grownCap w (xs.length + 1) c e <= maxLen := grownCap_le_maxLen w (xs.length + 1) c e h63;refine ⟨_, _, hr, Tail.of_own ⟨by simp, .inr ⟨w.heap.size, _, _, rfl, hbase, heap_alloc_new w.drew _, hge, hcm, ?_, ?_⟩⟩, ⟨rfl, rfl, rfl, by simp, fun j hj _ => by first | exact heap_alloc_old w.drew _ j hj | exact heap_alloc_old w.drew _ hj⟩, .inr rfl⟩
  ·simp only [Array.size_append, List.size_toArray, size_zeroCells, hzs, List.length_singleton]
   omega
  ·simp only [Array.toList_append, List.append_assoc, Nat.mul_one];rw [<- List.append_assoc, show xs.length + 1 = (xs ++ [u]).length by simp];exact List.take_left
theorem step_append_tail {ops : Array Oper} {o : Oper} {a : Act} {K : Act -> World -> Prop} {Q : Exit -> Act -> World -> Prop} {E : Prop} (hgd : o.guard = none) (s x : Operand) (t : TypeId)
  (ho : o.op = .call { callee := .builtin .append, args := #[s, x], argTypes := #[t, t] })
  (base : Nat) (e : TypeId) (i : TypeInfo) (z : Value) (bytes : Nat) (ht : P.underlying t = some (.slice e)) (hi : P.info? e = some i) (hz : i.zero = some z)
  (hsize : i.size = 1) (hby : i.bytes = bytes) (hzs : z.cells.size = 1) (v : Value) (xs : List Value) (hs : a.eval s = v) (hown : Tail w base e v xs)
  (ad : Addr) (c0 : Nat) (u : Value) (hx : a.eval x = .slice (some ad) 1 c0) (hu : w.cell? ad = some u) (h1 : u.oneCell' = true) (h63 : xs.length + 1 <= maxLen) (hbytes : (xs.length + 1) * bytes <= 140737488355328) (hbase : base <= w.heap.size)
  (h : ∀ v' w', Tail w' base e v' (xs ++ [u]) -> w.grownBy w' v.ownBlock -> (v'.ownBlock = v.ownBlock ∨ v'.ownBlock = some w.heap.size) -> K (a.put o.dst v') w') :
  if Region.wanted o (yielded ops a.tmps) = true then Oper.wp P o a w K Q else E := by
 obtain ⟨v', w', hrun, h2, h3, h4⟩ := run_append_tail (P := P) w base t o.type e i z bytes ht hi hz hsize hby hzs v xs hown ad c0 u hu h1 h63 hbytes hbase;rw [if_pos (by simp [Region.wanted, hgd])];unfold Oper.wp execOp;simp only [ho, resolve, invoke, builtin, Sem.run_bind, Sem.run_pure, Result.andThen_ok, List.map_toArray, List.map_cons, List.map_nil, hs, hx, hrun];exact h v' w' h2 h3 h4
end
end Go.Proofs.Ytncpehhfjkncoaa
namespace Go.Proofs.Ytncpehhfjkncoaa
open Go.RowKit

def argB (g f : GraphD) (bound : Bool) (i : Nat) (p : Int) : Bool := if bound then decide (p = i) else fitsB g false (f.kinds.getD (f.params.getD i 0).toNat 0) p
def argsB (gs : List GraphD) (g : GraphD) (bound : Bool) (x : NodeD) : Bool := decide (0 <= x.f) && (match gs[x.f.toNat]? with | none => false | some f => decide (x.args.length = f.params.length) && (List.range x.args.length).all fun i => argB g f bound i (x.args.getD i 0))
theorem args_any {w : World} {B cb : Nat} {allv : Value} {gs : List GraphD} {ga : Addr} {g : GraphD} {pv kv iv nv : Value} {bound : Bool} (h : Ck w B cb allv gs ga g pv kv iv nv bound)
  (hpar : ∀ f ∈ gs, ∀ p ∈ f.params, 0 <= p /\ p < f.kinds.length) (hgl : gs.length <= 16) (x : NodeD) (av : Value) (D : Nat) (hD : D <= w.heap.size) (hav : NumsAt .i64 w D av x.args) (hal : x.args.length <= 140737488351232) (hpl : ∀ f ∈ gs, f.params.length <= 4) (hkl : ∀ f ∈ gs, f.kinds.length <= 1024) :
  Calls Try.prog 42 #[.pointer (some ⟨cb, 0, none⟩), .agg (ncells x av).toArray] w fun e w' => e = .returned (.bool (argsB gs g bound x)) /\ Below w.heap.size w w' := by
 obtain ⟨r, hr⟩ := mn (argsB gs g bound x);rw [hr];unfold argsB at hr;obtain ⟨op, byo, d, e, a, b, f, cell, imm, args, next, els⟩ := x;simp only at hr hav hal;obtain ⟨AA, ac, rfl, _, _, hAr⟩ := hav.slice;obtain ⟨m, hm⟩ := mn (args.length);rw [hm] at hAr hal hr;simp only [ncells, hm];have hP := Blk.new w 52 #[.int .u8 op, .int .u8 byo, .int .i64 d, .int .i64 e, .int .i64 a, .int .i64 b, .int .i64 f, .int .i64 cell, .int .u64 imm, .slice AA m ac, .int .i64 next, .int .i64 els];have kp6 := bc hP 6;have kp9 := bc hP 9;obtain ⟨NC, hNC⟩ := nm (#[.int .u8 op, .int .u8 byo, .int .i64 d, .int .i64 e, .int .i64 a, .int .i64 b, .int .i64 f, .int .i64 cell, .int .u64 imm, .slice AA m ac, .int .i64 next, .int .i64 els] : Array Value);have hC := h.below ((Below.refl w.heap.size w).alloc (Nat.le_refl _) (.cells NC 52));have hb := (Below.refl w.heap.size w).alloc (Nat.le_refl _) (.cells NC 52);have hA := hAr.below ((Below.refl D w).alloc hD (.cells NC 52));rw [<- hNC] at kp6 kp9 ⊢;obtain ⟨V, hV⟩ := nm (w.alloc (.cells NC 52));rw [<- hV] at hC hb hA kp6 kp9;obtain ⟨GA, gc, rfl, _, _⟩ := hC.all.slice;have kc0 := bc hC.blk 0;have kc2 := bc hC.blk 2;obtain ⟨Z, hZ⟩ := mn (gs.length);rw [hZ] at kc0 hgl
 by_cases f0 : 0 <= f
 case neg =>
  have hf : f < 0 := by omega
  have hs : r = false := by rw [<- hr]; simp [f0]
  obtain ⟨Hb, HA, HC, Hr, HP, HAr, H, Hpar⟩ := hd8 hb hA hC hr hP hAr h hpar;obtain ⟨Hpl, Hm, HZ, HNC, Hs, HV, Hkl⟩ := hd7 hpl hm hZ hNC hs hV hkl;clear hkl hV hs hNC hZ hm hpl hpar h hAr hP hr hC hA hb;go_enter Try.func42, Try.ntmps42;go_upto_region 1 with fail;rw [<- HV.out]
  go_quiet (fail)
  go_wp2_with fail;go_ret;rw [Hs.out];exact ⟨rfl, below_drewN Hb.out _⟩
 obtain ⟨F, rfl⟩ := Int.eq_ofNat_of_zero_le f0
 have f0' : ¬ (F : Int) < 0 := by omega
 by_cases f1 : F < Z
 case neg =>
  have hf : (Z : Int) <= F := by omega
  have hs : r = false := by rw [<- hr, Int.toNat_natCast, List.getElem?_eq_none (by omega)]; simp
  obtain ⟨Hb, HA, HC, Hr, HP, HAr, H, Hpar⟩ := hd8 hb hA hC hr hP hAr h hpar;obtain ⟨Hpl, Hm, HZ, HNC, Hs, HV, Hkl⟩ := hd7 hpl hm hZ hNC hs hV hkl;clear hkl hV hs hNC hZ hm hpl hpar h hAr hP hr hC hA hb;clear f0 f1;go_enter Try.func42, Try.ntmps42;go_upto_region 1 with fail;rw [<- HV.out]
  go_quiet (fail)
  go_wp2_with fail;go_ret;rw [Hs.out];exact ⟨rfl, below_drewN Hb.out _⟩
 obtain ⟨ff, hff⟩ : ∃ ff, gs[F]? = some ff := ⟨_, List.getElem?_eq_getElem (by omega)⟩
 have hfm := List.mem_of_getElem? hff;rw [Int.toNat_natCast, hff] at hr;simp only [f0, decide_true, Bool.true_and] at hr
 have hf1 : ¬ (Z : Int) <= F := by omega
 have hf2 : (F : Int) < Z := by omega
 have hpl' := hpl ff hfm;have hkl' := hkl ff hfm;have hpar' := hpar ff hfm;obtain ⟨ad, pv2, kv2, iv2, nv2, hGA, _, hG2⟩ := hC.all.at_ hff;subst hGA;obtain ⟨PA, pc, hpv2, _, _, hPR⟩ := hG2.params.slice;subst hpv2;obtain ⟨PK, kc, hkv2, _, _, hKR⟩ := hG2.kinds.slice;subst hkv2;obtain ⟨M, hM⟩ := mn (ff.params.length);obtain ⟨KL, hKL⟩ := mn (ff.kinds.length);have g0 := hG2.c0;have g1 := hG2.c1;rw [hM] at hr hPR hpl' g0;rw [hKL] at hKR hkl' g1 hpar';obtain ⟨Hb, HA, HC, Hr, HP, HAr, H, Hpar⟩ := hd8 hb hA hC hr hP hAr h hpar;obtain ⟨Hpl, Hm, HZ, HNC, HV, Hff, Hfm, HG2⟩ := hd8 hpl hm hZ hNC hV hff hfm hG2;obtain ⟨HPR, HKR, HM, HKL, Hpar', Hkl⟩ := hd6 hPR hKR hM hKL hpar' hkl;clear hkl hpar' hKL hM hKR hPR hG2 hfm hff hV hNC hZ hm hpl hpar h hAr hP hr hC hA hb;clear f0 f1;go_enter Try.func42, Try.ntmps42;go_upto_region 1 with fail;rw [<- HV.out]
 go_quiet (fail)
 obtain ⟨q1, rfl⟩ := nm (nq);go_upto_region 3 with fail
 go_quiet (fail)
 obtain ⟨q2, rfl⟩ := nm (nq);go_upto_region 4 with fail
 by_cases hmM : m = M
 ·subst hmM
  go_quiet (fail)
  obtain ⟨q3, rfl⟩ := nm (nq);have hd : Below V.heap.size V (((V.drewN q1).drewN q2).drewN q3) := below_drewN (below_drewN (below_drewN (Below.refl _ _) _) _) _;have hb0 : Below w.heap.size w (((V.drewN q1).drewN q2).drewN q3) := below_drewN (below_drewN (below_drewN Hb.out _) _) _;have hC0 := HC.out.below hd;have hA0 := HA.out.below (hd.mono (Nat.le_trans hD Hb.out.size));have hG0 := HG2.out.below (hd.mono (by have := HC.out.le; have := HC.out.blk.lt; omega));have hP0 := HPR.out.below (hd.mono (by have := HC.out.le; have := HC.out.blk.lt; omega));have hK0 := HKR.out.below (hd.mono (by have := HC.out.le; have := HC.out.blk.lt; omega));have kp9' : (((V.drewN q1).drewN q2).drewN q3).cell? ⟨w.heap.size, 9, none⟩ = some (.slice AA m ac) := kp9
  have hVw : w.heap.size < V.heap.size := by rw [HV.out, World.size_alloc]; omega
  obtain ⟨W0, hW0⟩ := nm (((V.drewN q1).drewN q2).drewN q3);rw [<- hW0] at hd hb0 hC0 hA0 hG0 hP0 hK0 kp9' ⊢;have hr2 := Hr.out;simp only [decide_true, Bool.true_and] at hr2;have hsz0 := hd.size;obtain ⟨HW0, Hd, Hb0, HC0, HA0, HG0, HP0, HK0⟩ := hd8 hW0 hd hb0 hC0 hA0 hG0 hP0 hK0;have Hr2 := Lib.hid hr2;clear hr2 hK0 hP0 hG0 hA0 hC0 hb0 hd hW0;clear kp6 kp9 kc0 kc2 g0 g1;go_wp2_with fail
  go_loopw [40] (fun i wq => ∃ j : Nat, j <= m /\ i = .int .i64 j /\ Below W0.heap.size W0 wq /\ Hid (∀ k, k < j -> argB g ff bound k (args.getD k 0) = true)) (fun i _ => m - (intOf i).toNat)
  case atStart => exact ⟨0, by omega, rfl, Below.refl _ _, (show ∀ k, k < 0 -> argB g ff bound k (args.getD k 0) = true by omega)⟩
  case round =>
   obtain ⟨j, hj, rfl, hbq, hall⟩ := hrel;have hsq := hbq.size;have hCq := HC0.out.below hbq
   by_cases hjm : j < m
   ·obtain ⟨aad, u0, hAA, _, hu0, hce⟩ := (HA0.out.below (hbq.mono (by have := Hb0.out.size; omega))).at_ hjm;subst hAA
    obtain ⟨p, hpj, rfl⟩ : ∃ p, args[j]? = some p /\ u0 = .int .i64 p := by
     rw [List.getElem?_map, Option.map_eq_some_iff] at hu0;obtain ⟨x, h1, h2⟩ := hu0;exact ⟨x, h1, h2.symm⟩
    have hpg : args.getD j 0 = p := by rw [List.getD_eq_getElem?_getD, hpj]; rfl
    have hBq : B <= W0.heap.size := by have := HC0.out.le; have := HC0.out.blk.lt; omega
    obtain ⟨pad, pu, hPA, _, hpu, hpce⟩ := (HP0.out.below (hbq.mono hBq)).at_ hjm;subst hPA
    obtain ⟨pp, hpp, rfl⟩ : ∃ pp, ff.params[j]? = some pp /\ pu = .int .i64 pp := by
     rw [List.getElem?_map, Option.map_eq_some_iff] at hpu;obtain ⟨x, h1, h2⟩ := hpu;exact ⟨x, h1, h2.symm⟩
    obtain ⟨pp0, pp1⟩ := Hpar'.out pp (List.mem_of_getElem? hpp);obtain ⟨PP, rfl⟩ := Int.eq_ofNat_of_zero_le pp0
    have hPK : PP < KL := by omega
    obtain ⟨kad, ku, hKA, _, hku, hkce⟩ := (HK0.out.below (hbq.mono hBq)).at_ hPK;subst hKA
    obtain ⟨kk, hkk, rfl⟩ : ∃ kk, ff.kinds[PP]? = some kk /\ ku = .int .u8 kk := by
     rw [List.getElem?_map, Option.map_eq_some_iff] at hku;obtain ⟨x, h1, h2⟩ := hku;exact ⟨x, h1, h2.symm⟩
    have hkg : ff.kinds.getD (ff.params.getD j 0).toNat 0 = kk := by
     rw [List.getD_eq_getElem?_getD (l := ff.params), hpp, Option.getD_some, Int.toNat_natCast, List.getD_eq_getElem?_getD, hkk]
     rfl
    have hGq := HG0.out.below (hbq.mono hBq);have g0 := hGq.c0;have g1 := hGq.c1;rw [HM.out] at g0;rw [HKL.out] at g1;have kc2 := bc hCq.blk 2
    have hbig : r = false ∨ argB g ff bound j p = true := by
     rcases hh : argB g ff bound j p with _ | _
     ·left
      rw [<- Hr2.out]
      rcases hq : (List.range m).all (fun i => argB g ff bound i (args.getD i 0)) with _ | _
      ·rfl
      ·have := List.all_eq_true.1 hq j (List.mem_range.2 hjm);rw [hpg, hh] at this; cases this
     ·exact .inr rfl
    have hstep : argB g ff bound j p = true -> ∀ k, k < j + 1 -> argB g ff bound k (args.getD k 0) = true := fun hf k hk => by
     by_cases hkj : k = j
     ·rw [hkj, hpg]; exact hf
     ·exact hall.out k (by omega)
    have hbnd := Hb0.out.trans (hbq.mono Hb0.out.size)
    have hjI : (j : Int) < m := by omega
    have hPKI : (PP : Int) < KL := by omega
    clear hu0 hpu hku
    cases bound
    ·obtain ⟨bb, hbb⟩ := mn (isB g false kk [p])
     have harg : argB g ff false j p = bb := by
      rw [<- hbb];unfold argB isB;rw [if_neg (by decide), hkg];simp
     rw [harg] at hbig hstep;have l0 := hCq.blk.lt;have l1 : (ad.add (F * 8)).block < wr.heap.size := Nat.lt_of_lt_of_le hGq.lt (by omega);have hal := (Below.refl wr.drew.heap.size wr.drew).alloc (Nat.le_refl _) (.cells #[.int .i64 p] 3)
     have lp : (pad.add j).block < wr.heap.size := by rw [block_add]; omega
     have lk : (kad.add PP).block < wr.heap.size := by rw [block_add]; omega
     have e0 := (hal.cell (p := ⟨cb, 2, none⟩) l0).trans kc2;have e1 := (hal.cell (p := ad.add (F * 8)) l1).trans g0;have e2 := (hal.cell (p := ⟨(ad.add (F * 8)).block, (ad.add (F * 8)).off + 1, none⟩) l1).trans g1;have e3 := (hal.cell (p := pad.add j) lp).trans hpce;have e4 := (hal.cell (p := kad.add PP) lk).trans hkce;have hCal := hCq.below ((Below.refl wr.heap.size wr).drew.alloc (Nat.le_refl _) (.cells #[.int .i64 p] 3));obtain ⟨Hstep, Hbig, Hall, Hbq, HCq, Hpj, Hpg, Hpp⟩ := hd8 hstep hbig hall hbq hCq hpj hpg hpp;obtain ⟨Hkk, Hkg, HGq, Hbnd, Hbb, Harg, Hal, HCal⟩ := hd8 hkk hkg hGq hbnd hbb harg hal hCal;clear hCal hal harg hbb hbnd hGq hkg hkk hpp hpg hpj hCq hbq hall hbig hstep;go_upto_region 9 with fail;refine wp_region_noPanic ?_;refine wp_region_held_drew (S := fun W => W.cell? ⟨cb, 2, none⟩ = some (.bool false) /\ W.cell? (ad.add (F * 8)) = some (.slice (some pad) m pc) /\ W.cell? ⟨(ad.add (F * 8)).block, (ad.add (F * 8)).off + 1, none⟩ = some (.slice (some kad) KL kc) /\ W.cell? (pad.add j) = some (.int .i64 PP) /\ W.cell? (kad.add PP) = some (.int .u8 kk)) (by kernel_rfl) ⟨kc2, g0, g1, hpce, hkce⟩ (fun hHeld => ?_);refine wpAnyH_tk 0 ?_;refine wpAnyH_tk 1 ?_;refine wpAnyH_tk 2 ?_;refine wpAnyH_tk 3 ?_;refine wpAnyH_tk 4 ?_;refine wpAnyH_sk 5 ?_;refine wpAnyH_sk 6 ?_;refine wpAnyH_sk 7 ?_;refine wpAnyH_tk 8 ?_;refine wpAnyH_tk 9 ?_;refine wpAnyH_tk 10 ?_;refine wpAnyH_tk 11 ?_;refine wpAnyH_tk 12 ?_;refine wpAnyH_tk 13 ?_;refine wpAnyH_tk 14 ?_;refine wpAnyH_tk 15 ?_;refine wpAnyH_tk 16 ?_;refine wpAnyH_tk 17 ?_;refine wpAnyH_tk 18 ?_;refine wpAnyH_tk 19 ?_;refine wpAnyH_tk 20 ?_;refine wpAnyH_tk 21 ?_;refine wpAnyH_tk 22 ?_;refine wpAnyH_tk 23 ?_;refine wpAnyH_tk 24 ?_;refine wpAnyH_tk 25 ?_;refine wpAnyH_tk 26 ?_;refine wpAnyH_tk 27 ?_;refine wpAnyH_tk 28 ?_;refine wpAnyH_tk 29 ?_;refine wpAnyH_tk 30 ?_;refine wpAnyH_rd 31 (fun K hK => ?_);go_simp;refine hK.out _ _ ⟨e0, e1, e2, e3, e4⟩ (fun hHeld2 => ?_);clear hK K hHeld;refine lay ?_;refine wpAnyH_rd 32 (fun K hK => ?_);go_simp;refine (is_any HCal.out kk (wr.heap.size + 1) (some ⟨wr.heap.size, 0, none⟩) 1 1 [p] (Reads.new1 _ _ _) rfl (by omega)).mono ?_;rintro e w1 ⟨rfl, rfl⟩;rw [Hbb.out];refine hK.out _ _ ⟨e0, e1, e2, e3, e4⟩ (fun hHeld3 => ?_);clear hK K hHeld2;refine lay ?_;refine wpAnyH_tk 33 ?_;refine wpAnyH_tk 34 ?_;refine wpAnyH_tk 35 ?_;refine wpAnyH_done (by kernel_rfl) ?_ _;refine NoPanic.normal ?_;clear hHeld3 e0 e1 e2 e3 e4 g0 g1 hpce hkce kc2;have hbe := Hbq.out.drew.trans (Hal.out.mono Hbq.out.size);have hbe2 := Hbnd.out.drew.trans (Hal.out.mono Hbnd.out.size)
     cases bb
     ·have hs : r = false := by
       rcases Hbig.out with h1 | h1
       ·exact h1
       ·cases h1
      obtain ⟨Hs, Hbe, Hbe2⟩ := hd3 hs hbe hbe2;clear hbe2 hbe hs;go_wp2_with fail;go_ret;rw [Hs.out];exact ⟨rfl, Hbe2.out⟩
     ·have hs := Hstep.out rfl;obtain ⟨Hs, Hbe, Hbe2⟩ := hd3 hs hbe hbe2;clear hbe2 hbe hs;go_wp2_with fail;exact ⟨⟨j + 1, by omega, by go_num, Hbe.out, Lib.hid Hs.out⟩, by simp [intOf]; omega⟩
    ·by_cases hpe : p = j
     ·have hs := hstep (by simp [argB, hpe])
      have hne : (p != (j : Int)) = false := by simp [hpe]
      obtain ⟨Hs, Hstep, Hbig, Hall, Hbq, HCq, Hpj, Hpg⟩ := hd8 hs hstep hbig hall hbq hCq hpj hpg;obtain ⟨Hpp, Hkk, Hkg, HGq, Hbnd⟩ := hd5 hpp hkk hkg hGq hbnd;clear hbnd hGq hkg hkk hpp hpg hpj hCq hbq hall hbig hstep hs;go_upto_region 9 with fail
      go_quiet (fail)
      go_wp2_with fail;exact ⟨⟨j + 1, by omega, by go_num, below_drewN Hbq.out nq, Lib.hid Hs.out⟩, by simp [intOf]; omega⟩
     ·have hs : r = false := by
       rcases hbig with h1 | h1
       ·exact h1
       ·simp [argB, hpe] at h1
      have hne : (p != (j : Int)) = true := by simp [hpe]
      obtain ⟨Hs, Hstep, Hbig, Hall, Hbq, HCq, Hpj, Hpg⟩ := hd8 hs hstep hbig hall hbq hCq hpj hpg;obtain ⟨Hpp, Hkk, Hkg, HGq, Hbnd, Hpe⟩ := hd6 hpp hkk hkg hGq hbnd hpe;clear hpe hbnd hGq hkg hkk hpp hpg hpj hCq hbq hall hbig hstep hs;go_upto_region 9 with fail
      go_quiet (fail)
      go_wp2_with fail;go_ret;rw [Hs.out];exact ⟨rfl, below_drewN Hbnd.out nq⟩
   ·have hs : r = true := by
     rw [<- Hr2.out]
     refine List.all_eq_true.2 fun k hk => hall.out k ?_
     have := List.mem_range.1 hk
     omega
    have hbnd := Hb0.out.trans (hbq.mono Hb0.out.size);obtain ⟨Hs, Hall, Hbq, HCq, Hbnd⟩ := hd5 hs hall hbq hCq hbnd;clear hbnd hCq hbq hall hs;go_wp2_with fail;go_ret;rw [Hs.out];exact ⟨rfl, Hbnd.out⟩
 ·have hn : ((m : Int) != M) = true := by simp; omega
  have hs : r = false := by rw [<- Hr.out]; simp [hmM]
  obtain ⟨Hs, HmM⟩ := hd2 hs hmM;clear hmM hs
  go_quiet (fail)
  go_wp2_with fail;go_ret;rw [Hs.out];refine ⟨rfl, ?_⟩
  repeat refine below_drewN ?_ _
  exact Hb.out
end Go.Proofs.Ytncpehhfjkncoaa
namespace Go.Proofs.Ytncpehhfjkncoaa
open Go.RowKit

def addStep (o : List Int) (p : Int) : List Int := if 0 <= p /\ p ∉ o then o ++ [p] else o
def onceL (l : List Int) : List Int := l.foldl addStep []
theorem infoIntr : (Try.prog.info? 3).map (fun i => (i.zero, i.size, i.bytes)) = some (some (.int .i64 0), 1, 8) := by kernel_rfl
theorem Lst.of_own {w : World} {B : Nat} {v : Value} {l : List Int} (h : w.ownsRow B 3 1 v l.length (l.map (Value.int .i64))) : Lst w v l := by
 obtain ⟨A, c, rfl, h1, h2, h3⟩ := own_any h;exact ⟨A, c, rfl, h1, h2, Reads.of_own h⟩
theorem in_any (w : World) (D : Nat) (A : Option Addr) (m c : Nat) (ps : List Int) (hP : Reads w D 1 A m (ps.map (Value.int .i64))) (hm : ps.length = m) (hmc : m <= 140737488351232) (x : Int) :
  Calls Try.prog 33 #[.slice A m c, .int .i64 x] w fun e w' => e = .returned (.bool (decide (x ∈ ps))) /\ w = w' := by
 obtain ⟨HP, Hm⟩ := hd2 hP hm;clear hm hP;go_enter Try.func33, Try.ntmps33;go_wp2_with fail
 go_loopw [9] (fun i wq => ∃ j : Nat, j <= m /\ i = .int .i64 j /\ wq = w /\ Hid (x ∉ ps.take j)) (fun i _ => m - (intOf i).toNat)
 case atStart => exact ⟨0, by omega, rfl, rfl, (show x ∉ ps.take 0 by simp)⟩
 case round =>
  obtain ⟨j, hj, rfl, hwr, hall⟩ := hrel;subst hwr
  by_cases hjm : j < m
  ·obtain ⟨ad, u0, hA, _, hu0, hce⟩ := HP.out.at_ hjm;subst hA
   obtain ⟨p, hpj, rfl⟩ : ∃ p, ps[j]? = some p /\ u0 = .int .i64 p := by
    rw [List.getElem?_map, Option.map_eq_some_iff] at hu0;obtain ⟨x, h1, h2⟩ := hu0;exact ⟨x, h1, h2.symm⟩
   have hmem := List.mem_of_getElem? hpj
   by_cases hx : x = p
   ·have hb : (p == x) = true := by simp [hx]
    have hin : decide (x ∈ ps) = true := decide_eq_true (hx ▸ hmem);obtain ⟨Hall, Hpj, Hmem, Hx, Hin⟩ := hd5 hall hpj hmem hx hin;clear hin hx hmem hpj hall;clear hu0;go_wp2_with fail;go_ret;rw [Hin.out];exact ⟨rfl, rfl⟩
   ·have hb : (p == x) = false := by rw [beq_eq_false_iff_ne]; exact fun e => hx e.symm
    have hs : x ∉ ps.take (j + 1) := by
     rw [List.take_add_one, hpj];simp only [Option.toList, List.mem_append, List.mem_singleton];rintro (h | h)
     ·exact hall.out h
     ·exact hx h
    obtain ⟨Hall, Hpj, Hmem, Hx, Hs⟩ := hd5 hall hpj hmem hx hs;clear hs hx hmem hpj hall;clear hu0;go_wp2_with fail;exact ⟨⟨j + 1, by omega, by go_num, trivial, Lib.hid Hs.out⟩, by simp [intOf]; omega⟩
  ·have hs : decide (x ∈ ps) = false := by
    rw [List.take_of_length_le (by rw [Hm.out]; omega)] at hall;exact decide_eq_false hall.out
   obtain ⟨Hs, Hall⟩ := hd2 hs hall;clear hall hs;go_wp2_with fail;go_ret;rw [Hs.out];exact ⟨rfl, rfl⟩
end Go.Proofs.Ytncpehhfjkncoaa
