/- Walks of the run's small questions: the next deferred call, how many wait, a node's numbers, what a word names. Conditions: the run lies in memory, its deferred calls are right. Walks of a node's numbers, of how many calls wait, of what a word names. Conditions: the run lies in memory, the places are there. Walks of how many calls wait, of what a word names. Conditions: the run lies in memory. Walk of what a word names. Conditions: the run lies in memory. -/
import Derived.Test.YtncpehhfjkncoaaPlAA
import Derived.Test.YtncpehhfjkncoaaPlAF
set_option linter.unusedVariables false
set_option linter.unusedSimpArgs false
set_option maxRecDepth 100000
set_option maxHeartbeats 16000000
namespace Go.Proofs.Ytncpehhfjkncoaa
open Go.RowKit

section
variable {w : World} {base : Nat} {X : RunX} {R : RunD} {rest : List It}
theorem RunIn.box {V : RunV} (h : RunIn w base X R V rest) (t : TypeId) (cs : Array Value) : RunIn (w.alloc (.cells cs t)) base X R V (.blk w.heap.size t cs :: rest) :=
 ⟨h.tok, h.lens, (h.its.newBlk h.size_.2 t cs).perm List.perm_middle.symm⟩
theorem RunIn.topAt {V : RunV} (h : RunIn w base X R V rest) (hne : R.row ≠ []) {g c n : Nat} {v : FrV} {s : List FrV} (hv : V.fv = v :: s) (hr : V.rv = .slice (some ⟨g, 0, none⟩) (n + 1) c) : TopM w base R V g c n v := by
 obtain ⟨g', c', n', v', s', hv', hT⟩ := h.top hne;have hr' := hT.rv;rw [hr] at hr';rw [hv] at hv';injection hv' with e1 _;injection hr' with e2 e3 e4;injection e2 with e2;injection e2 with e2
 have e3 : n = n' := by omega
 subst e1 e2 e3 e4;exact hT
theorem next_none (h : RunAt w base X R rest) (hne : R.row ≠ []) (hn : R.row.length <= 1048576) (hw : R.top.waits = []) (why : Int) :
  Calls Try.prog 48 #[.pointer (some ⟨X.rp, 0, none⟩), .int .i64 why] w fun e w' => e = .returned (.bool false) /\ ∃ q, w' = w.drewN q := by
 obtain ⟨V, h⟩ := h.run;have hb := h.blk;obtain ⟨g, c, n, v, s, hv, hT⟩ := h.top hne;have hlen := hT.len;have b3 : w.cell? ⟨X.rp, 3, none⟩ = some V.rv := hb.cell 3;rw [hT.rv] at b3;have f5 := hT.f5;obtain ⟨A, wc, hwv, _⟩ := own_any hT.wv;rw [hwv, hw] at f5
 have hn1 : IntKind.i64.wrap (n : Int) = n := by rw [IntKind.wrap_i64]; omega
 have hn2 : (n : Int) < n + 1 := by omega
 clear hb h hlen hT hwv;go_enter Try.func48, Try.ntmps48;go_upto_region 1 with fail
 go_quiet (fail)
 go_wp2_with fail;go_ret;exact ⟨rfl, _, rfl⟩
theorem next_some (h : RunAt w base X R rest) (hne : R.row ≠ []) (hn : R.row.length < 1048576) {ws : List (Int × List Int)} {f : Nat} {args : List Int} (hw : R.top.waits = ws ++ [((f : Int), args)]) (hwl : ws.length < 1048576) {gr : GraphD} (ok : PushOk X.gs f gr args.length) (why : Int) :
  Calls Try.prog 48 #[.pointer (some ⟨X.rp, 0, none⟩), .int .i64 why] w fun e w' => RunGot base X rest w (.bool true) ((R.setTop { R.top with waits := ws }).push X.gs f args why) e w' := by
 obtain ⟨V, hV⟩ := h.run;have hb := hV.blk;obtain ⟨g, c, n, v, s, hv, hT⟩ := hV.top hne;have hlen := hT.len
 have hrl : 0 < R.row.length := by omega
 have b3 : w.cell? ⟨X.rp, 3, none⟩ = some V.rv := hb.cell 3;rw [hT.rv] at b3;have f5 := hT.f5;have f5f := hT.fz (n * 9 + 5)
 have hav : v.av.length = ws.length + 1 := by
  obtain ⟨r, v', s', _, hv', _, ha⟩ := hV.top_eq hne;rw [hv] at hv';injection hv' with e1 _;rw [e1, ha, hw, List.length_append]; rfl
 obtain ⟨zs, a, hza⟩ : ∃ zs a, v.av = zs ++ [a] := ⟨v.av.dropLast, v.av.getLast (fun e => by rw [e] at hav; cases hav), (List.dropLast_concat_getLast _).symm⟩
 have hzl : zs.length = ws.length := by rw [hza, List.length_append, List.length_singleton] at hav; omega
 obtain ⟨m, hm⟩ := mn (ws.length);have hwv := hT.wv
 have hwn : R.top.waits.length = m + 1 := by rw [hw, List.length_append, hm]; rfl
 rw [hwn, hw, hza, waitCells_app _ _ hzl] at hwv;obtain ⟨A, wc, hwe, _⟩ := own_any hwv;rw [hwe] at hwv f5;obtain ⟨_, q, e, hbq, _, hcell⟩ := own_row hwv (by omega);subst e;have hlw := len_waitCells (l := ws) (s := zs) hzl;have d0 := hcell (m * 2) (.int .i64 (f : Nat)) (by rw [List.getElem?_append_right (by omega), show m * 2 - (waitCells ws zs).length = 0 by omega]; rfl);have d1 := hcell (m * 2 + 1) a (by rw [List.getElem?_append_right (by omega), show m * 2 + 1 - (waitCells ws zs).length = 1 by omega]; rfl);rw [addr_zero] at d0 d1
 have hn1 : IntKind.i64.wrap (n : Int) = n := by rw [IntKind.wrap_i64]; omega
 have hn2 : (n : Int) < n + 1 := by omega
 have hm1 : IntKind.i64.wrap (m : Int) = m := by rw [IntKind.wrap_i64]; omega
 have hm2 : (m : Int) < m + 1 := by omega
 have haA := (hV.takeWait hT hv hw hza hm hwe).its.each (.row a 34 1 args.length (u64s args)) (List.mem_append_right _ List.mem_cons_self);obtain ⟨AA, ac, hae, _⟩ := own_any (show World.ownsRow _ _ _ _ _ _ _ from haA);subst hae;have hrv := hT.rv
 have hwc : m + 1 <= wc := by
  rcases hwv.2 with ⟨_, h0⟩ | ⟨_, _, _, hs, _, _, h1, _⟩
  ·omega
  ·injection hs with _ _ hs; omega
 obtain ⟨H, HV, Hb, HT, Hwv, Hcell, Hza, HaA⟩ := hd8 h hV hb hT hwv hcell hza haA;obtain ⟨Hwe, Hrv, Hv⟩ := hd3 hwe hrv hv;clear hv hrv hwe haA hza hcell hwv hT hb hV h;go_enter Try.func48, Try.ntmps48;go_upto_region 1 with fail
 go_quiet (fail)
 have hVq := HV.out.drewN nq;have hbq0 := below_drewN (Below.refl base w) nq;have hb3q : (w.drewN nq).cell? ⟨X.rp, 3, none⟩ = some (.slice (some ⟨g, 0, none⟩) (n + 1) c) := b3;have hf5q : (w.drewN nq).cell? ⟨g, n * 9 + 5, none⟩ = some (.slice (some ⟨q, 0, none⟩) (m + 1) wc) := f5;have hf5fq : (w.drewN nq).frozen? ⟨g, n * 9 + 5, none⟩ = false := f5f;have hd0q : (w.drewN nq).cell? ⟨q, m * 2, none⟩ = some (.int .i64 (f : Nat)) := d0;have hd1q : (w.drewN nq).cell? ⟨q, m * 2 + 1, none⟩ = some (.slice AA args.length ac) := d1;obtain ⟨wq, hwq⟩ := nm (w.drewN nq);rw [<- hwq] at hVq hbq0 hb3q hf5q hf5fq hd0q hd1q ⊢;clear b3 f5 f5f d0 d1;have hV1 := hVq.box 93 #[.int .i64 (f : Nat), .slice AA args.length ac];have hb1 := hbq0.alloc hVq.size_.2 (.cells #[.int .i64 (f : Nat), .slice AA args.length ac] 93);obtain ⟨HVq, Hbq0, Hwq, HV1, Hb1⟩ := hd5 hVq hbq0 hwq hV1 hb1;clear hb1 hV1 hwq hbq0 hVq;go_upto_region 6 with fail;obtain ⟨G, hG⟩ := mn (wq.heap.size)
 have hk1 : ∀ p : Addr, p.block < G -> (wq.alloc (.cells #[.int .i64 (f : Nat), .slice AA args.length ac] 93)).cell? p = wq.cell? p := fun p hp => World.cell?_alloc_lt _ _ p (by omega)
 have hgl : g < G := by rw [<- hG]; exact (HVq.out.topAt hne Hv.out Hrv.out).lt
 obtain ⟨w1, hw1⟩ := nm (wq.alloc (.cells #[.int .i64 (f : Nat), .slice AA args.length ac] 93));have hV1 := HV1.out;have hb1 := Hb1.out;rw [<- hw1] at hV1 hb1 hk1 ⊢;rw [hG] at hV1 ⊢;have hf5 : w1.cell? ⟨g, n * 9 + 5, none⟩ = some (.slice (some ⟨q, 0, none⟩) (m + 1) wc) := (hk1 ⟨g, _, none⟩ hgl).trans hf5q;have hT1 := hV1.topAt hne Hv.out Hrv.out;have hf5f := hT1.fz (n * 9 + 5);have hV2 := hV1.takeWait hT1 Hv.out hw Hza.out hm Hwe.out;have hb2 := hb1.setCell (p := ⟨g, n * 9 + 5, none⟩) hT1.le (.slice (some ⟨q, 0, none⟩) m wc);clear HV1 Hb1 hb3q hf5q hf5fq hd0q hd1q;obtain ⟨HG, Hk1, Hw1, HV1, Hb1, HT1, HV2, Hb2⟩ := hd8 hG hk1 hw1 hV1 hb1 hT1 hV2 hb2;clear hb2 hV2 hT1 hb1 hV1 hw1 hk1 hG;go_upto_region 7 with fail
 have h2 : RunAt (w1.setCell ⟨g, n * 9 + 5, none⟩ (.slice (some ⟨q, 0, none⟩) m wc)) base X (R.setTop { R.top with waits := ws }) (.row (.slice AA args.length ac) 34 1 args.length (u64s args) :: .blk G 93 #[.int .i64 (f : Nat), .slice AA args.length ac] :: rest) := ⟨H.out.le, H.out.gs.below (Hb2.out.mono H.out.le), _, HV2.out⟩
 obtain ⟨w2, hw2⟩ := nm (w1.setCell ⟨g, n * 9 + 5, none⟩ (.slice (some ⟨q, 0, none⟩) m wc));have hb2 := Hb2.out;rw [<- hw2] at h2 hb2 ⊢;have hDB : Blk w2 G 93 #[.int .i64 (f : Nat), .slice AA args.length ac] := (h2.mem (x := .blk G 93 #[.int .i64 (f : Nat), .slice AA args.length ac]) (List.mem_cons_of_mem _ List.mem_cons_self)).2;have e0 := bc hDB 0;have e1 := bc hDB 1;have hpu := push_any h2 ok (av := .slice AA args.length ac) List.mem_cons_self (by show (R.row.tail.length + 1) < 1048576; rw [List.length_tail]; omega) why;clear HV2 Hb2 hf5 hf5f;obtain ⟨H2, Hw2, Hb2, HDB, Hpu, Hok⟩ := hd6 h2 hw2 hb2 hDB hpu ok;clear ok hpu hDB hb2 hw2 h2;go_wp2_with fail;refine Hpu.out.mono ?_;rintro e w3 ⟨rfl, h3, hb3⟩;have hfin := h3.drop.drop;have hbf := Hb2.out.trans hb3;obtain ⟨H3, Hb3, Hfin, Hbf⟩ := hd4 h3 hb3 hfin hbf;clear hbf hfin hb3 h3;go_wp2_with fail;go_ret;exact ⟨rfl, Hfin.out, Hbf.out⟩
end
end Go.Proofs.Ytncpehhfjkncoaa
namespace Go.Proofs.Ytncpehhfjkncoaa
open Go.RowKit

section
variable {w : World} {base : Nat} {X : RunX} {R : RunD} {rest : List It}
theorem RunAt.first {x : It} (h : RunAt w base X R (x :: rest)) : x.At w base := h.mem List.mem_cons_self
/-- a row that lies beside the run is turned -/
theorem RunAt.turn {w' : World} {v v' : Value} {e : TypeId} {size n n' : Nat} {xs xs' : List Value} (h : RunAt w base X R (.row v e size n xs :: rest)) (ho : w'.ownsRow base e size v' n' xs') (hg : w.grownBy w' v.ownBlock) (hat : v'.ownBlock = v.ownBlock ∨ v'.ownBlock = some w.heap.size) (hb : Below base w w') : RunAt w' base X R (.row v' e size n' xs' :: rest) := by
 obtain ⟨V, hV⟩ := h.run;refine ⟨h.le, h.gs.below (hb.mono h.le), V, hV.tok, hV.lens, ?_⟩;have h1 : Items w base (.row v e size n xs :: (runIts X V R ++ rest)) := hV.its.perm List.perm_middle
 have h2 := h1.push (i := 0) rfl ho hg (by
  rcases hat with e | e
  ·exact .inl e
  ·exact .inr fun b hb => by rw [e] at hb; injection hb with hb; omega)
 exact Items.perm h2 List.perm_middle.symm
theorem RunAt.new {w' : World} {x : It} (h : RunAt w base X R rest) (hg : w.grownBy w' none) (hx : x.At w' base) (hb : ∀ b, x.block = some b -> w.heap.size <= b) (hbl : Below base w w') : RunAt w' base X R (x :: rest) := by
 obtain ⟨V, hV⟩ := h.run;exact ⟨h.le, h.gs.below (hbl.mono h.le), V, hV.tok, hV.lens, (hV.its.new hg hx hb).perm List.perm_middle.symm⟩
theorem RunAt.nilRow (h : RunAt w base X R rest) (e : TypeId) (size : Nat) : RunAt w base X R (.row (.slice none 0 0) e size 0 [] :: rest) := by
 obtain ⟨V, hV⟩ := h.run;exact ⟨h.le, h.gs, V, hV.tok, hV.lens, (hV.its.cons (x := .row (.slice none 0 0) e size 0 []) (World.ownsRow_nil _ _ _ _) (fun b e => by cases e)).perm List.perm_middle.symm⟩
theorem qargs_any (h : RunAt w base X R rest) (hne : R.row ≠ []) (hn : R.row.length <= 1048576) {x : NodeD} {av : Value} (hav : NumsAt .i64 w X.B av x.args) (hp : ∀ p ∈ x.args, 0 <= p /\ (p < 16 ∨ p < R.top.places.length)) (hl : x.args.length <= 1024) :
  Calls Try.prog 30 #[.pointer (some ⟨X.rp, 0, none⟩), .agg (ncells x av).toArray] w fun e w' => ∃ v, RunGot base X (.row v 34 1 (R.args x).length (u64s (R.args x)) :: rest) w v R e w' := by
 obtain ⟨op, byo, d, e_, a, b, f, cell, imm, args, next, els⟩ := x;simp only at hav hp hl;obtain ⟨iU, hiU, uz0, uz1, uz2⟩ := info_parts infoU64;obtain ⟨NA, nc, rfl, _, _, hAr⟩ := hav.slice;obtain ⟨m, hm⟩ := mn (args.length);obtain ⟨l, hL⟩ := mn (args.map R.get);have hRL : R.args ⟨op, byo, d, e_, a, b, f, cell, imm, args, next, els⟩ = l := hL
 have hll : l.length = m := by rw [<- hL, List.length_map, hm]
 rw [hRL, hll];simp only [ncells, hm];rw [hm] at hl;have h1 := h.box 52 #[.int .u8 op, .int .u8 byo, .int .i64 d, .int .i64 e_, .int .i64 a, .int .i64 b, .int .i64 f, .int .i64 cell, .int .u64 imm, .slice NA m nc, .int .i64 next, .int .i64 els];have hb1 := (Below.refl base w).alloc h.size (.cells #[.int .u8 op, .int .u8 byo, .int .i64 d, .int .i64 e_, .int .i64 a, .int .i64 b, .int .i64 f, .int .i64 cell, .int .u64 imm, .slice NA m nc, .int .i64 next, .int .i64 els] 52);obtain ⟨H, Hav, HAr, Hm, HL, HRL, Hll, H1⟩ := hd8 h hav hAr hm hL hRL hll h1;obtain ⟨Hb1, Hp⟩ := hd2 hb1 hp;clear hp hb1 h1 hll hRL hL hm hAr hav h;go_enter Try.func30, Try.ntmps30;go_upto_region 1 with fail;obtain ⟨w1, hw1⟩ := nm (w.alloc (.cells #[.int .u8 op, .int .u8 byo, .int .i64 d, .int .i64 e_, .int .i64 a, .int .i64 b, .int .i64 f, .int .i64 cell, .int .u64 imm, .slice NA m nc, .int .i64 next, .int .i64 els] 52));obtain ⟨G, hG⟩ := mn (w.heap.size);have h1 := H1.out;have hb1 := Hb1.out;rw [<- hw1] at h1 hb1 ⊢;rw [hG] at h1 ⊢;clear H1 Hb1;have hNB : Blk w1 G 52 _ := (RunAt.first h1).2;have k9 := bc hNB 9
 have h2 := (h1.nilRow 34 1)
 obtain ⟨H1, Hb1, HNB, Hw1, HG, H2⟩ := hd6 h1 hb1 hNB hw1 hG h2;clear h2 hG hw1 hNB hb1 h1;go_upto_region 3 with fail;clear k9
 go_loopg [5, 11] m (fun gk ov iv wr => ∃ k : Nat, k + gk = m /\ iv = .int .i64 k /\ (∃ OA oc, ov = .slice OA k oc) /\ Hid (RunAt wr base X R (.row ov 34 1 k (u64s (l.take k)) :: .blk G 52 #[.int .u8 op, .int .u8 byo, .int .i64 d, .int .i64 e_, .int .i64 a, .int .i64 b, .int .i64 f, .int .i64 cell, .int .u64 imm, .slice NA m nc, .int .i64 next, .int .i64 els] :: rest)) /\ Hid (Below base w wr))
 case atStart => exact ⟨0, by omega, rfl, ⟨none, 0, rfl⟩, H2, Hb1⟩
 case round =>
  obtain ⟨k, hk, rfl, ⟨OA, oc, rfl⟩, hRk, hbk⟩ := hrel
  by_cases hkm : k < m
  ·have hki : (k : Int) < m := by omega
   obtain ⟨pad, rfl, _, hpc⟩ := ints_at (HAr.out.below (hbk.out.mono H.out.le)) (k := k) (by rw [Hm.out]; exact hkm);obtain ⟨p, hpe⟩ := mn (args.getD k 0)
   have hka : k < args.length := by rw [Hm.out]; exact hkm
   have hpm : p ∈ args := by
    rw [<- hpe, List.getD_eq_getElem?_getD, List.getElem?_eq_getElem hka];exact List.getElem_mem _
   rw [hpe] at hpc;obtain ⟨hp0, hp1⟩ := Hp.out p hpm;have hget := get_any hRk.out hne hp0 hp1 hn
   have htk : l.take (k + 1) = l.take k ++ [R.get p] := by
    rw [<- HL.out, List.take_add_one, List.getElem?_map, List.getElem?_eq_getElem hka, Option.map_some, Option.toList_some]
    congr 2
    rw [<- hpe, List.getD_eq_getElem?_getD, List.getElem?_eq_getElem hka]; rfl
   obtain ⟨gv, hgv⟩ := mn (R.get p);rw [hgv] at hget htk;obtain ⟨Hget, Htk, Hgv, Hpe, Hpm⟩ := hd5 hget htk hgv hpe hpm;clear hpm hpe hgv htk hget;go_wp2_with fail;refine Hget.out.mono ?_;rintro e w3 ⟨rfl, q3, hw3⟩;have h3 := hRk.out.drewN q3;have hb3 := below_drewN hbk.out q3;rw [<- hw3] at h3 hb3;clear hw3 hpc;have h4 := h3.alloc (.cells #[.int .u64 gv] 34);have hb4 := hb3.alloc h3.size (.cells #[.int .u64 gv] 34);obtain ⟨H3, Hb3, H4, Hb4⟩ := hd4 h3 hb3 h4 hb4;clear hb4 h4 hb3 h3
   go_wp2_with (first
    | (at_builtin
       refine wpList_append_any _ rfl (.tmp 15) (.tmp 19) _ rfl base 34 iU _ 1 8 Try.underlying25 hiU uz0 uz1 uz2 rfl (by omega) (.slice OA k oc) k (u64s (l.take k)) rfl (RunAt.first H4.out) (w3.heap.size + 1) (some ⟨w3.heap.size, 0, none⟩) 1 1 [.int .u64 gv] rfl (Reads.newS _ rfl _ _ _ _ _ rfl rfl) ?c1 ?c2 ?c3 ?c4 ?_
       case c1 => intro u hu; rw [List.mem_singleton] at hu; subst hu; rfl
       case c2 => simp only [maxLen]; omega
       case c3 => omega
       case c4 => exact H4.out.size
       intro v5 w5 hown5 hg5 hat5;obtain ⟨A5, c5, rfl, _⟩ := own_any hown5;have hb5 := Hb4.out.grown hg5 H4.out.size (fun b e => (World.ownsRow.lt (RunAt.first H4.out) b e).1);have hbl5 := (Below.refl base _).grown hg5 H4.out.size (fun b e => (World.ownsRow.lt (RunAt.first H4.out) b e).1);have h5 := H4.out.turn hown5 hg5 hat5 hbl5;obtain ⟨H5, Hb5⟩ := hd2 h5 hb5;clear hb5 h5
       clear hown5 hg5 hat5 hbl5))
   go_roundg (gk - 1)
   case measure => omega
   case rel =>
    refine ⟨k + 1, by omega, by simp [show wrap64 ((k : Int) + 1) = k + 1 by unfold wrap64; omega], ⟨_, _, rfl⟩, Lib.hid ?_, Hb5⟩;have := H5.out;rw [show u64s (l.take k) ++ [Value.int .u64 gv] = u64s (l.take (k + 1)) by rw [Htk.out]; unfold u64s; rw [List.map_append]; rfl] at this;exact this
  ·obtain rfl : k = m := by omega
   have hki : ¬ (k : Int) < k := by omega
   have hfin : RunAt wr base X R (.row (.slice OA k oc) 34 1 k (u64s l) :: rest) := by
    have := hRk.out;rw [List.take_of_length_le (by rw [Hll.out]; exact Nat.le_refl _)] at this;exact this.sub (List.Sublist.cons_cons _ (List.sublist_cons_self _ _))
   have Hfin := Lib.hid hfin;clear hfin;go_wp2_with fail;go_ret;exact ⟨_, rfl, Hfin.out, hbk.out⟩
end
end Go.Proofs.Ytncpehhfjkncoaa
namespace Go.Proofs.Ytncpehhfjkncoaa
open Go.RowKit

section
variable {w : World} {base : Nat} {X : RunX} {R : RunD} {rest : List It}
theorem sum_take (l : List Nat) (k : Nat) (hk : k < l.length) : (l.take (k + 1)).sum = (l.take k).sum + l[k] := by
 rw [List.take_add_one, List.getElem?_eq_getElem hk, Option.toList_some, List.sum_append]; simp
theorem sum_take_le (l : List Nat) (k : Nat) : (l.take k).sum <= l.sum := by
 conv => rhs; rw [<- List.take_append_drop k l, List.sum_append]
 omega
theorem waiting_any (h : RunAt w base X R rest) (hn : R.row.length <= 1048576) (hw : R.waiting <= 1048576) :
  Calls Try.prog 32 #[.pointer (some ⟨X.rp, 0, none⟩)] w fun e w' => e = .returned (.int .i64 (R.waiting : Nat)) /\ w = w' := by
 obtain ⟨V, hV⟩ := h.run;have hb := hV.blk;obtain ⟨RA, rc, hrv, _⟩ := own_any hV.rrow;have b3 : w.cell? ⟨X.rp, 3, none⟩ = some V.rv := hb.cell 3;rw [hrv] at b3;obtain ⟨n, hnn⟩ := mn (R.row.length);rw [hnn] at b3 hn;obtain ⟨L, hL⟩ := mn ((R.row.map fun x => x.waits.length).reverse : List Nat)
 have hLl : L.length = n := by rw [<- hL, List.length_reverse, List.length_map, hnn]
 have hLs : L.sum = R.waiting := by rw [<- hL, List.sum_reverse]; rfl
 obtain ⟨T, hT⟩ := mn (R.waiting);rw [hT] at hw hLs ⊢;obtain ⟨H, Hb, HV, Hrv, Hnn, HL, HLl, HLs⟩ := hd8 h hb hV hrv hnn hL hLl hLs;have HT := Lib.hid hT;clear hT hLs hLl hL hnn hrv hV hb h;go_enter Try.func32, Try.ntmps32;go_upto_region 3 with fail
 go_loopg [3, 10] n (fun gk s iv wr => ∃ k : Nat, k + gk = n /\ iv = .int .i64 k /\ s = .int .i64 ((L.take k).sum : Nat) /\ w = wr)
 case atStart => exact ⟨0, by omega, rfl, by simp, rfl⟩
 case round =>
  obtain ⟨k, hk, rfl, rfl, rfl⟩ := hrel
  by_cases hkn : k < n
  ·have hki : (k : Int) < n := by omega
   obtain ⟨x, hx⟩ : ∃ x, R.row[n - 1 - k]? = some x := ⟨_, List.getElem?_eq_getElem (by rw [Hnn.out]; omega)⟩
   obtain ⟨g, c, v, hrv2, _, hwc, _, ⟨A, wc, hwe⟩, _⟩ := HV.out.frame hx;rw [Hnn.out, show n - 1 - (n - 1 - k) = k by omega, hwe] at hwc;rw [Hrv.out] at hrv2;injection hrv2 with e1 e2 e3;subst e1 e3;clear e2
   have hlk : L[k]'(by rw [HLl.out]; exact hkn) = x.waits.length := by
    have e : L[k]? = some x.waits.length := by
     rw [<- HL.out, List.getElem?_reverse (by rw [List.length_map, Hnn.out]; exact hkn), List.length_map, Hnn.out, List.getElem?_map, hx]; rfl
    rw [List.getElem?_eq_getElem (by rw [HLl.out]; exact hkn)] at e;injection e
   have hs := sum_take L k (by rw [HLl.out]; exact hkn);rw [hlk] at hs;have hle := sum_take_le L (k + 1);rw [HLs.out] at hle;obtain ⟨sk, hsk⟩ := mn ((L.take k).sum);obtain ⟨wl, hwl⟩ := mn (x.waits.length);rw [hsk, hwl] at hs;rw [hwl] at hwc;rw [hsk]
   have hwr : IntKind.i64.wrap ((sk : Int) + wl) = ((sk + wl : Nat) : Int) := by rw [IntKind.wrap_i64]; omega
   have hwk : wrap64 ((k : Int) + 1) = k + 1 := by unfold wrap64; omega
   obtain ⟨Hx, Hwe, Hlk, Hs, Hle, Hsk, Hwl⟩ := hd7 hx hwe hlk hs hle hsk hwl;clear hwl hsk hle hs hlk hwe hx;go_wp2_with fail
   go_roundg (gk - 1)
   case measure => omega
   case rel =>
    refine ⟨k + 1, by omega, by simp [hwk], ?_, rfl⟩;rw [Hs.out]
    first | rfl | (rw [hwr]) | simp [hwr]
  ·obtain rfl : k = n := by omega
   have hki : ¬ (k : Int) < k := by omega
   rw [List.take_of_length_le (by rw [HLl.out]; exact Nat.le_refl _), HLs.out];go_wp2_with fail;go_ret;exact ⟨rfl, rfl⟩
end
end Go.Proofs.Ytncpehhfjkncoaa
namespace Go.Proofs.Ytncpehhfjkncoaa
open Go.RowKit

section
variable {w : World} {base : Nat} {X : RunX} {R : RunD} {rest : List It}
theorem point_out (h : RunAt w base X R rest) {p : Int} (hp : p < 4611686018427387904 ∨ 4611967493404098560 <= p) :
  Calls Try.prog 29 #[.pointer (some ⟨X.rp, 0, none⟩), .int .u64 p] w fun e w' => e = .returned (.tuple #[.int .i64 (-1), .int .i64 0]) /\ w = w' := by
 by_cases h1 : p < 4611686018427387904
 ·go_enter Try.func29, Try.ntmps29;go_wp2_with fail;exact bodyPost_ret (results_tmp2 rfl _ _ _) rfl (by exact ⟨rfl, rfl⟩)
 ·have h2 : 4611967493404098560 <= p := by omega
  go_enter Try.func29, Try.ntmps29;go_wp2_with fail;exact bodyPost_ret (results_tmp2 rfl _ _ _) rfl (by exact ⟨rfl, rfl⟩)
theorem point_in (h : RunAt w base X R rest) (hn : R.row.length <= 1048576) {p : Int} (F C : Nat) (hp : p = 4611686018427387904 + 65536 * F + C) (hC : C < 65536) (hF : F < 4294967296) (b : Bool) (hb : b = true ↔ (F < R.row.length /\ C < (R.row.getD (R.row.length - 1 - F) frZ).cells.length)) :
  Calls Try.prog 29 #[.pointer (some ⟨X.rp, 0, none⟩), .int .u64 p] w fun e w' => e = .returned (.tuple #[.int .i64 (if b then (F : Int) else -1), .int .i64 (if b then (C : Int) else 0)]) /\ w = w' := by
 have h1 : ¬ p < 4611686018427387904 := by omega
 have h2 : ¬ 4611967493404098560 <= p := by omega
 have q1 : (p - 4611686018427387904) / 65536 = (F : Int) := by omega
 have q2 : p % 65536 = (C : Int) := by omega
 obtain ⟨V, hV⟩ := h.run;obtain ⟨RA, rc, hrv, _⟩ := own_any hV.rrow;have b3 : w.cell? ⟨X.rp, 3, none⟩ = some V.rv := hV.blk.cell 3;rw [hrv] at b3;obtain ⟨n, hnn⟩ := mn (R.row.length);rw [hnn] at b3 hn hb
 by_cases hFn : F < n
 ·have hFi : ¬ (n : Int) <= F := by omega
  obtain ⟨x, hx⟩ : ∃ x, R.row[n - 1 - F]? = some x := ⟨_, List.getElem?_eq_getElem (by rw [hnn]; omega)⟩
  have hgx : R.row.getD (n - 1 - F) frZ = x := by rw [List.getD_eq_getElem?_getD, hx]; rfl
  rw [hgx] at hb;obtain ⟨g, c, v, hrv2, hcv, _, hown, _, _⟩ := hV.frame hx;rw [hnn, show n - 1 - (n - 1 - F) = F by omega] at hcv;obtain ⟨A, cc, hcve, _⟩ := own_any hown;rw [hcve] at hcv;rw [hrv] at hrv2;injection hrv2 with e1 e2 e3;subst e1 e3;clear e2;obtain ⟨cl, hcl⟩ := mn (x.cells.length);rw [hcl] at hcv hb
  by_cases hCc : C < cl
  ·have hCi : ¬ (cl : Int) <= C := by omega
   have hbt : b = true := hb.mpr ⟨hFn, hCc⟩;subst hbt;obtain ⟨Hp, Hb, H, HV, Hrv, Hnn, Hx, Hgx⟩ := hd8 hp hb h hV hrv hnn hx hgx;obtain ⟨Hown, Hcve, Hcl⟩ := hd3 hown hcve hcl;clear hcl hcve hown hgx hx hnn hrv hV h hb hp;go_enter Try.func29, Try.ntmps29;go_wp2_with fail;exact bodyPost_ret (results_tmp2 rfl _ _ _) rfl (by exact ⟨rfl, rfl⟩)
  ·have hCi : (cl : Int) <= C := by omega
   have hbf : b = false := by
    rcases b with _ | _
    ·rfl
    ·exact absurd (hb.mp rfl).2 hCc
   subst hbf;obtain ⟨Hp, Hb, H, HV, Hrv, Hnn, Hx, Hgx⟩ := hd8 hp hb h hV hrv hnn hx hgx;obtain ⟨Hown, Hcve, Hcl⟩ := hd3 hown hcve hcl;clear hcl hcve hown hgx hx hnn hrv hV h hb hp;go_enter Try.func29, Try.ntmps29;go_wp2_with fail;exact bodyPost_ret (results_tmp2 rfl _ _ _) rfl (by exact ⟨rfl, rfl⟩)
 ·have hFi : (n : Int) <= F := by omega
  have hbf : b = false := by
   rcases b with _ | _
   ·rfl
   ·exact absurd (hb.mp rfl).1 hFn
  subst hbf;obtain ⟨Hp, Hb, H, HV, Hrv, Hnn⟩ := hd6 hp hb h hV hrv hnn;clear hnn hrv hV h hb hp;go_enter Try.func29, Try.ntmps29;go_wp2_with fail;exact bodyPost_ret (results_tmp2 rfl _ _ _) rfl (by exact ⟨rfl, rfl⟩)
end
end Go.Proofs.Ytncpehhfjkncoaa
