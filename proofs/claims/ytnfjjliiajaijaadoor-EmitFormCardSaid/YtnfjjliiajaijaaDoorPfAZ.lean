/- Part of the proof, named by its texts: FmLs IrForms FmW FmL. No condition of its own. -/
import Derived.Test.YtnfjjliiajaijaaDoorPfAA
import Derived.Test.YtnfjjliiajaijaaDoorPfAY
import Derived.Test.YtnfjjliiajaijaaDoorPfAB
set_option linter.unusedVariables false
set_option linter.unusedSimpArgs false
set_option maxRecDepth 100000
set_option maxHeartbeats 16000000
namespace Go.Proofs.YtnfjjliiajaijaaDoor
open Go.RowKit
theorem zhX (A : Option Addr) (n c : Nat) (xs : List Int) (w : World) (B : Nat) (hr : zal w B 1 A n (zbd xs)) (hl : xs.length = n) (hnc : n <= c) (hc : c <= maxLen) (hn : n <= 10000000000) (hB : B <= w.heap.size) (hb : ∀ x ∈ xs, 0 <= x /\ x < 256) (h8 : n % 8 = 0) :
  Calls Tryd.prog 28 #[.slice A n c] w fun e w' => ((∃ l sv, zgW (n / 8) xs = some l /\ e = .returned (.tuple #[sv, .bool true]) /\ w'.ownsRow w.heap.size 71 5 sv (n / 8) (l.flatMap zaW)) ∨ (zgW (n / 8) xs = none /\ e = .returned (.tuple #[.slice none 0 0, .bool false]))) /\ Below w.heap.size w w' := by
 obtain ⟨i0, hi0, hz0, hz1, hz2⟩ := info_parts zno
 obtain ⟨N, hN⟩ : ∃ N, n = 8 * N := ⟨n / 8, by omega⟩
 have hN8 : n / 8 = N := by omega
 rw [hN8];unfold maxLen at hc
 have hm8 : ((n : Int) % 8 != 0) = false := by simp; omega
 have hst : zgW N xs = (zgW (N - 0) (xs.drop (8 * 0))).map (([] : List zaw) ++ ·) := by simp
 obtain ⟨Hr, Hl, Hb, HN, HN8, Hst⟩ := hd6 hr hl hb hN hN8 hst;clear hst hN8 hN hb hl hr;clear h8;go_enter Tryd.func28, Tryd.ntmps28;go_wp2_with fail
 go_loopw [4, 5] (fun s i wq => ∃ k : Nat, k <= N /\ i = .int .i64 (8 * k : Nat) /\ ∃ l : List zaw, l.length = k /\ wq.ownsRow w.heap.size 71 5 s k (l.flatMap zaW) /\ Below w.heap.size w wq /\ Hid (zgW N xs = (zgW (N - k) (xs.drop (8 * k))).map (l ++ ·))) (fun _ i _ => n - (intOf i).toNat)
 case atStart => exact ⟨0, by omega, rfl, [], rfl, World.ownsRow_nil _ _ _ _, Below.refl _ _, Hst.out⟩
 case round =>
  obtain ⟨k, hk, rfl, l, hll, hown, hbw, hdec⟩ := hrel;have hR := Hr.out.below (hbw.mono hB);obtain ⟨T, hT⟩ := nm (8 * k : Nat);rw [<- hT]
  by_cases hlt : k < N
  ·have hTn : T + 8 <= n := by have := HN.out; omega
   obtain ⟨ad, hA, hadB, hcell⟩ := hR.2 (by omega);subst hA;obtain ⟨ys, hys⟩ := nm (xs.drop T)
   have hyl : ys.length = n - T := by rw [hys, List.length_drop, Hl.out]
   have hyb : ∀ x ∈ ys, 0 <= x /\ x < 256 := fun x hx => Hb.out x (by rw [hys] at hx; exact List.mem_of_mem_drop hx)
   rw [<- hT] at hdec;rw [<- hys] at hdec;obtain ⟨x0, x1, x2, x3, x4, x5, x6, x7, zs, hyz⟩ := znt ys (by omega)
   have hc' : ∀ (j : Nat) (x : Int), ys[j]? = some x -> wr.cell? (ad.add (T + j)) = some (.int .u8 x) := fun j x hj => hcell (T + j) _ (by
    rw [zbd, List.getElem?_map, <- List.getElem?_drop, <- hys, hj]; rfl)
   rw [hyz] at hyb hc';have c0 := hc' 0 _ rfl;have c1 := hc' 1 _ rfl;have c2 := hc' 2 _ rfl;have c3 := hc' 3 _ rfl;have c4 := hc' 4 _ rfl;have c5 := hc' 5 _ rfl;have c6 := hc' 6 _ rfl;have c7 := hc' 7 _ rfl;have d4 : wr.cell? ⟨ad.block, ad.off + (T + 3 + 1), none⟩ = some (.int .u8 x4) := c4;have d5 : wr.cell? ⟨ad.block, ad.off + (T + 4 + 1), none⟩ = some (.int .u8 x5) := c5;have d6 : wr.cell? ⟨ad.block, ad.off + (T + 5 + 1), none⟩ = some (.int .u8 x6) := c6;have d7 : wr.cell? ⟨ad.block, ad.off + (T + 6 + 1), none⟩ = some (.int .u8 x7) := c7;have d3 : wr.cell? ⟨ad.block, ad.off + (T + 2 + 1), none⟩ = some (.int .u8 x3) := c3;have d2 : wr.cell? ⟨ad.block, ad.off + (T + 1 + 1), none⟩ = some (.int .u8 x2) := c2;have d1 : wr.cell? ⟨ad.block, ad.off + (T + 1), none⟩ = some (.int .u8 x1) := c1;clear c1 c2 c3 c4 c5 c6 c7;rw [Nat.add_zero] at c0
   have hx : (0 <= x0 /\ x0 < 256) /\ (0 <= x1 /\ x1 < 256) /\ (0 <= x2 /\ x2 < 256) /\ (0 <= x3 /\ x3 < 256) /\ (0 <= x4 /\ x4 < 256) /\ (0 <= x5 /\ x5 < 256) /\ (0 <= x6 /\ x6 < 256) /\ (0 <= x7 /\ x7 < 256) := by
    refine ⟨?_, ?_, ?_, ?_, ?_, ?_, ?_, ?_⟩ <;> exact hyb _ (by simp)
   obtain ⟨⟨l0, u0⟩, ⟨l1, u1⟩, ⟨l2, u2⟩, ⟨l3, u3⟩, ⟨l4, u4⟩, ⟨l5, u5⟩, ⟨l6, u6⟩, ⟨l7, u7⟩⟩ := hx;obtain ⟨im, him⟩ := mn (IntKind.i32.wrap (x4 + x5 * 256 + x6 * 65536 + x7 * 16777216));obtain ⟨Him, Hyz, Hyb, Hyl, Hys, Hown, Hbw, Hdec⟩ := hd8 him hyz hyb hyl hys hown hbw hdec;obtain ⟨HR, Hll, HT, Hc'⟩ := hd4 hR hll hT hc';clear hc' hT hll hR hdec hbw hown hys hyl hyb hyz him;clear hcell;go_wp2_with fail;refine wp_loop_rounds 5 ?_;rw [rounds_succ];go_wp2_with fail;rw [rounds_succ];go_wp2_with fail;rw [rounds_succ];go_wp2_with fail;rw [rounds_succ];go_wp2_with fail;rw [rounds_succ]
   go_upto_if 35 with (fail)
   have him0 : im <= 2147483647 /\ -2147483648 <= im := by have := Him.out; rw [IntKind.wrap_i32] at this; omega
   obtain ⟨him1, him2⟩ := him0
   go_cut [6] from 13 to 37 (fun v wx => v = .int .i64 im /\ wr = wx)
   case first =>
    by_cases hE : 2147483648 <= ((x7 * 256 + x6) * 256 + x5) * 256 + x4
    ·have hh : ((x7 * 256 + x6) * 256 + x5) * 256 + x4 - 4294967296 = im := by have := Him.out; rw [IntKind.wrap_i32] at this; omega
     go_wp2_with fail;go_meet;exact ⟨rfl, rfl⟩
    ·have hh : ((x7 * 256 + x6) * 256 + x5) * 256 + x4 = im := by have := Him.out; rw [IntKind.wrap_i32] at this; omega
     have Hh := Lib.hid hh;clear hh;go_wp2_with fail;go_meet;exact ⟨by rw [Hh.out], rfl⟩
   case rest =>
    obtain ⟨hv1, hw1⟩ := hcut;subst hv1 hw1
    have hadw : ad.block < wr.heap.size := by have := Hbw.out.size; omega
    obtain ⟨T1, hT1⟩ := nm (T + 1);obtain ⟨T2, hT2⟩ := nm (T + 2);obtain ⟨T3, hT3⟩ := nm (T + 3)
    have k1 : wr.cell? (ad.add T1) = some (.int .u8 x1) := by rw [hT1]; exact d1
    have k2 : wr.cell? (ad.add T2) = some (.int .u8 x2) := by rw [hT2]; exact d2
    have k3 : wr.cell? (ad.add T3) = some (.int .u8 x3) := by rw [hT3]; exact d3
    have p1 : IntKind.i64.wrap ((T : Int) + 1) = T1 := by rw [IntKind.wrap_i64]; omega
    have p2 : IntKind.i64.wrap ((T : Int) + 2) = T2 := by rw [IntKind.wrap_i64]; omega
    have p3 : IntKind.i64.wrap ((T : Int) + 3) = T3 := by rw [IntKind.wrap_i64]; omega
    have p4 : T < n /\ T1 < n /\ T2 < n /\ T3 < n := by omega
    have p5 : (T : Int) < n /\ (T1 : Int) < n /\ (T2 : Int) < n /\ (T3 : Int) < n := by omega
    have p6 : IntKind.i64.wrap x1 = x1 /\ IntKind.i64.wrap x2 = x2 /\ IntKind.i64.wrap x3 = x3 /\ IntKind.i32.wrap im = im := by refine ⟨?_, ?_, ?_, ?_⟩ <;> first | (rw [IntKind.wrap_i64]; omega) | (rw [IntKind.wrap_i32]; omega)
    obtain ⟨HT1, HT2, HT3⟩ := hd3 hT1 hT2 hT3;clear hT3 hT2 hT1;clear d1 d2 d3;go_upto_region 14 with fail;refine wp_region_noPanic ?_;refine wp_region_held_drew (S := fun W => W.cell? (ad.add T) = some (.int .u8 x0) /\ W.cell? (ad.add T1) = some (.int .u8 x1) /\ W.cell? (ad.add T2) = some (.int .u8 x2) /\ W.cell? (ad.add T3) = some (.int .u8 x3)) (by kernel_rfl) ⟨c0, k1, k2, k3⟩ (fun hHeld => ?_);refine zab 0 ?_;refine zab 1 ?_;refine zab 2 ?_;refine zab 3 ?_;refine zab 4 ?_;refine zab 5 ?_;refine zab 6 ?_;refine zab 7 ?_;refine zab 8 ?_;refine zab 9 ?_;refine zab 10 ?_;refine zab 11 ?_;refine zab 12 ?_;refine zab 13 ?_;refine zab 14 ?_;refine zab 15 ?_;refine zab 16 ?_;refine zab 17 ?_;refine zab 18 ?_;refine zab 19 ?_;refine zab 20 ?_;refine zab 21 ?_;refine zab 22 ?_;refine zab 23 ?_;refine zab 24 ?_;refine zbb 25 (fun K hK => ?_);go_simp;refine hK.out _ _ ⟨(World.cell?_alloc_lt wr _ (ad.add T) (by rw [zas]; exact hadw)).trans c0, (World.cell?_alloc_lt wr _ (ad.add T1) (by rw [zas]; exact hadw)).trans k1, (World.cell?_alloc_lt wr _ (ad.add T2) (by rw [zas]; exact hadw)).trans k2, (World.cell?_alloc_lt wr _ (ad.add T3) (by rw [zas]; exact hadw)).trans k3⟩ (fun hHeld2 => ?_);refine zbb 26 (fun K hK => ?_);go_simp;refine hK.out _ _ ⟨(World.cell?_alloc_lt wr _ (ad.add T) (by rw [zas]; exact hadw)).trans c0, (World.cell?_alloc_lt wr _ (ad.add T1) (by rw [zas]; exact hadw)).trans k1, (World.cell?_alloc_lt wr _ (ad.add T2) (by rw [zas]; exact hadw)).trans k2, (World.cell?_alloc_lt wr _ (ad.add T3) (by rw [zas]; exact hadw)).trans k3⟩ (fun hHeld3 => ?_);clear hK K hHeld hHeld2 hHeld3;refine wpAnyH_done (by kernel_rfl) ?_ _;refine NoPanic.normal ?_;clear c0 k1 k2 k3 d4 d5 d6 d7 p1 p2 p3 p6
    have hwf : (⟨x0, x1, x2, x3, im⟩ : zaw).Wf := by
     refine ⟨?_, ?_, ?_, ?_, ?_⟩ <;> simp only <;> omega
    have hmo : mOf (xs.drop (8 * k) |>.take 8) = ⟨x0, x1, x2, x3, im⟩ := by
     rw [<- HT.out, <- Hys.out, Hyz.out, <- Him.out];simp [mOf, leV]
     congr 1
     omega
    have hdr : (xs.drop (8 * k)).drop 8 = xs.drop (8 * (k + 1)) := by rw [List.drop_drop]; rfl
    have hstep : zgW (N - k) (xs.drop (8 * k)) = if zaP ⟨x0, x1, x2, x3, im⟩ then (zgW (N - (k + 1)) (xs.drop (8 * (k + 1)))).map ((⟨x0, x1, x2, x3, im⟩ : zaw) :: ·) else none := by
     rw [show N - k = (N - (k + 1)) + 1 by omega, zgW, hmo, hdr]
    have hsz := Hbw.out.size;have hP := (Blk.new wr 71 #[.int .u8 x0, .int .i64 x1, .int .i64 x2, .int .i64 x3, .int .i32 im]).drew;have hbw6 := (Hbw.out.alloc hsz (.cells #[.int .u8 x0, .int .i64 x1, .int .i64 x2, .int .i64 x3, .int .i32 im] 71)).drew;have hO6 := zaX (Hown.out.alloc (.cells #[.int .u8 x0, .int .i64 x1, .int .i64 x2, .int .i64 x3, .int .i32 im] 71)) (zb8 (World.grownBy.refl _ none)) nofun;obtain ⟨F, hF⟩ := nm (wr.heap.size);rw [<- hF] at hP ⊢
    have hw6s : (wr.alloc (.cells #[.int .u8 x0, .int .i64 x1, .int .i64 x2, .int .i64 x3, .int .i32 im] 71)).drew.heap.size = F + 1 := by rw [hF]; simp
    have hB6 : Below wr.heap.size wr (wr.alloc (.cells #[.int .u8 x0, .int .i64 x1, .int .i64 x2, .int .i64 x3, .int .i32 im] 71)).drew := ((Below.refl _ wr).alloc (Nat.le_refl _) _).drew;obtain ⟨w6, hw6⟩ := nm ((wr.alloc (.cells #[.int .u8 x0, .int .i64 x1, .int .i64 x2, .int .i64 x3, .int .i32 im] 71)).drew);rw [<- hw6] at hP hbw6 hO6 hw6s hB6 ⊢;have kp0 := bc hP 0;have kp1 := bc hP 1;have kp2 := bc hP 2;have kp3 := bc hP 3;have kp4 := bc hP 4;obtain ⟨HF, Hw6, HB6, HP, HO6, Hbw6, Hwf, Hmo⟩ := hd8 hF hw6 hB6 hP hO6 hbw6 hwf hmo;obtain ⟨Hdr, Hstep, Hw6s⟩ := hd3 hdr hstep hw6s;clear hw6s hstep hdr hmo hwf hbw6 hO6 hP hB6 hw6 hF;go_wp2_with fail;refine (znm ⟨x0, x1, x2, x3, im⟩ Hwf.out _).mono ?_;rintro e w7 ⟨rfl, hb7⟩;have hP7 := HP.out.below hb7 (by rw [Hw6s.out]; omega);have hO7 := zaX HO6.out (zah hb7 none) nofun;have hb7' := Hbw6.out.trans (hb7.mono (by rw [Hw6s.out, HF.out]; omega));have kq0 := bc hP7 0;have kq1 := bc hP7 1;have kq2 := bc hP7 2;have kq3 := bc hP7 3;have kq4 := bc hP7 4;clear kp0 kp1 kp2 kp3 kp4;have hs7 := hb7'.size
    rcases hg : zaP ⟨x0, x1, x2, x3, im⟩ with _ | _
    ·have hno : zgW N xs = none := by rw [Hdec.out, Hys.out, HT.out, Hstep.out, hg]; rfl
     obtain ⟨Hno, Hb7', HP7, HO7, Hg⟩ := hd5 hno hb7' hP7 hO7 hg;clear hg hO7 hP7 hb7' hno;clear hb7;go_wp2_with fail;go_ret2;exact ⟨.inr ⟨Hno.out, rfl⟩, Hb7'.out⟩
    ·have hnx : zgW N xs = (zgW (N - (k + 1)) (xs.drop (8 * (k + 1)))).map ((l ++ [(⟨x0, x1, x2, x3, im⟩ : zaw)]) ++ ·) := by
      rw [Hdec.out, Hys.out, HT.out, Hstep.out, hg];simp only [if_true, Option.map_map]
      congr 1
      funext z
      simp
     have hnk : (k + 1) * 40 <= 140737488355328 := by have := HN.out; omega
     obtain ⟨Hnx, Hb7', HP7, HO7, Hg⟩ := hd5 hnx hb7' hP7 hO7 hg;clear hg hO7 hP7 hb7' hnx;clear hb7
     go_wp2_with (first
      | (at_builtin
         refine zau _ rfl (.tmp 66) (.tmp 68) _ rfl w.heap.size 71 i0 _ 5 40 Tryd.underlying65 hi0 hz0 hz1 hz2 rfl (by omega) _ k _ rfl (HO7.out.alloc _) (w7.heap.size + 1) (some ⟨w7.heap.size, 0, none⟩) 1 1 (zaW ⟨x0, x1, x2, x3, im⟩) rfl ?c0 ?c1 ?c2 ?c3 ?c4 ?_
         case c0 => exact zal.newS _ rfl _ _ _ _ _ rfl rfl
         case c1 => intro u hu; simp only [zaW, List.mem_cons, List.not_mem_nil, or_false] at hu; rcases hu with rfl | rfl | rfl | rfl | rfl <;> rfl
         case c2 => simp only [maxLen]; omega
         case c3 => omega
         case c4 => simp; omega
         intro v9 w9 hown9 hg9 hat9))
     have hb9 := (Hb7'.out.alloc hs7 (.cells #[.int .u8 x0, .int .i64 x1, .int .i64 x2, .int .i64 x3, .int .i32 im] 71)).grown hg9 (by simp; omega) (fun g e => (HO7.out.lt g e).1);refine ⟨⟨k + 1, by omega, by have h8k := HT.out; congr 1; omega, l ++ [⟨x0, x1, x2, x3, im⟩], by simp [Hll.out], by rw [List.flatMap_append]; simpa using hown9, hb9, Lib.hid Hnx.out⟩, by have := HT.out; simp only [intOf]; omega⟩
  ·have hkN : k = N := by omega
   have hTn : ¬ (T : Int) < n := by have := HN.out; omega
   have hfin : zgW N xs = some l := by rw [hdec.out, hkN, Nat.sub_self]; simp [zgW]
   have hown' : wr.ownsRow w.heap.size 71 5 _ N (l.flatMap zaW) := hkN ▸ hown;obtain ⟨Hfin, Hown', Hbw, HR, Hdec, Hown, HT⟩ := hd7 hfin hown' hbw hR hdec hown hT;clear hT hown hdec hR hbw hown' hfin;go_wp2_with fail;go_ret2;exact ⟨.inl ⟨l, Hfin.out, _, rfl, Hown'.out⟩, Hbw.out⟩
theorem zdc.forms {w : World} {B : Nat} {ga : Addr} {g : zad} {pv kv iv nv : Value} (h : zdc w B ga g pv kv iv nv) :
  ∃ PA pn pc KA kn kc IA il ic NA nn nc, pv = .slice PA pn pc /\ kv = .slice KA kn kc /\ iv = .slice IA il ic /\ nv = .slice NA nn nc /\ g.params.length = pn /\ g.kinds.length = kn /\ g.init.length = il /\ g.nodes.length = nn := by
 obtain ⟨PA, pc, h1, _⟩ := h.params.slice;obtain ⟨KA, kc, h2, _⟩ := h.kinds.slice;obtain ⟨IA, ic, h3, _⟩ := h.init.slice;obtain ⟨NA, nn, nc, css, h4, _, _, h5, _⟩ := h.nodes;exact ⟨PA, _, pc, KA, _, kc, IA, _, ic, NA, nn, nc, h1, h2, h3, h4, rfl, rfl, rfl, h5⟩
theorem zjf (l : List zaw) (h : ∀ i ∈ l, i.Wf /\ zaP i = true) : ∀ x ∈ l.flatMap zbo, 0 <= x /\ x < 256 := by
 intro x hx;obtain ⟨i, hi, hx⟩ := List.mem_flatMap.1 hx;obtain ⟨hw, hg⟩ := h i hi;obtain ⟨hd, ha, hb⟩ := zhv hg;have ho := hw.op;simp only [zbo, List.mem_append, List.mem_cons, List.not_mem_nil, or_false] at hx
 rcases hx with (rfl | rfl | rfl | rfl) | hx
 ·omega
 ·omega
 ·omega
 ·omega
 ·exact zjE 4 _ x hx
structure zna (gs : List zad) (C : List zaw) (T : zco) (N : Nat) (st : Nat -> Nat) : Prop where
 len : gs.length = N
 pos : 0 < N
 big : C.length <= 1048576
 good : ∀ m ∈ C, m.Wf /\ zaP m = true
 c0 : C[0]? = some ⟨13, 0, 0, 0, 0⟩
 c1 : C[1]? = some ⟨13, 0, 0, 0, 1⟩
 first : st 0 = 2
 last : st N = C.length
 enter : ∀ (i : Nat) r, T.rows[i]? = some r -> C[st i]? = some ⟨11, 0, 0, 0, r.size⟩
 params : ∀ (i : Nat) r g, T.rows[i]? = some r -> gs[i]? = some g -> r.params = g.params.map (fun p => g.kinds.getD p.toNat 0) /\ (∀ p ∈ g.params, 0 <= p /\ p < g.kinds.length) /\ g.nodes.length <= 4096 /\ (r.resume = -1 ∨ (0 <= r.resume /\ zbi g.nodes = true))
 call : ∀ (k : Nat) m, C[k]? = some m -> m.op = 9 -> (∃ f, f < N /\ m.imm = ((st f : Nat) : Int)) /\ k + 1 ∈ T.sites.map (·.1)
 count : ze2 C = T.sites.length
theorem zjd {w : World} {B MB n c k : Nat} {C : List zaw} {i : zaw} (ho : w.ownsRow B 71 5 (.slice (some ⟨MB, 0, none⟩) n c) n (C.flatMap zaW)) (hk : C[k]? = some i) (hn : 0 < n) :
  w.cell? ⟨MB, k * 5, none⟩ = some (.int .u8 i.op) /\ w.cell? ⟨MB, k * 5 + 1, none⟩ = some (.int .i64 i.d) /\ w.cell? ⟨MB, k * 5 + 2, none⟩ = some (.int .i64 i.a) /\ w.cell? ⟨MB, k * 5 + 3, none⟩ = some (.int .i64 i.b) /\ w.cell? ⟨MB, k * 5 + 4, none⟩ = some (.int .i32 i.imm) := by
 obtain ⟨_, g, e, _, _, hc⟩ := zd7 ho hn;injection e with e;injection e with e;subst e
 have hg := fun j hj => zcL zgc C k i hk j hj
 have c0 := hc _ _ (hg 0 (by omega));have c1 := hc _ _ (hg 1 (by omega));have c2 := hc _ _ (hg 2 (by omega));have c3 := hc _ _ (hg 3 (by omega));have c4 := hc _ _ (hg 4 (by omega));rw [zbU] at c0 c1 c2 c3 c4;exact ⟨c0, c1, c2, c3, c4⟩
section
variable {w w' : World} {B FB fc N : Nat} {T : zco} {st : Nat -> Nat} {sv : Value} {lvs : List Value} {ps : List (Value × Value)}
theorem zlC {D n c : Nat} {A : Option Addr} {gsv : Value} {gs : List zad} {C : List zaw} (hT : ze9 w B FB fc N T st sv lvs ps) (hG : zaI w D gsv gs) (hD : D <= w.heap.size) (hR : zal w D 1 A n (zbd (C.flatMap zbo))) (hn : n = 8 * C.length) (hnc : n <= c) (hc : c <= maxLen) (hF : zna gs C T N st) :
  Calls Tryd.prog 12 #[.agg #[gsv], .agg #[.slice A n c, .slice (some ⟨FB, 0, none⟩) N fc, sv]] w fun e w' => e = .returned (.bool true) /\ Below w.heap.size w w' := by
 have hlen := hF.len;have hN16 := hT.ok.n16;have hNp := hF.pos;obtain ⟨GA, gc, rfl, hgc1, hgc2⟩ := hG.slice;rw [hlen] at hG hgc1 ⊢;obtain ⟨CL, hCL⟩ := mn (C.length);have hbig := hF.big;rw [hCL] at hn hbig
 obtain ⟨SA, sn, sc, hse⟩ : ∃ SA sn sc, sv = .slice SA sn sc := by
  obtain ⟨A, c, e, _⟩ := zak (show w.ownsRow B 112 2 sv T.sites.length (zaC T.sites lvs) from hT.its.each (.row sv 112 2 T.sites.length (zaC T.sites lvs)) (by unfold zbE; simp));exact ⟨A, _, c, e⟩
 have hsn : sn = T.sites.length := by
  obtain ⟨A, c, e, _⟩ := zak (show w.ownsRow B 112 2 sv T.sites.length (zaC T.sites lvs) from hT.its.each (.row sv 112 2 T.sites.length (zaC T.sites lvs)) (by unfold zbE; simp));rw [hse] at e;injection e
 subst hse;have hal : Below w.heap.size w ((w.alloc (.cells #[.slice GA N gc] 24)).alloc (.cells #[.slice A n c, .slice (some ⟨FB, 0, none⟩) N fc, .slice SA sn sc] 33)) := ((Below.refl _ _).alloc (Nat.le_refl _) _).alloc (by simp) _;have hP := (Blk.new w 24 #[.slice GA N gc]).alloc (.cells #[.slice A n c, .slice (some ⟨FB, 0, none⟩) N fc, .slice SA sn sc] 33);have hQ := Blk.new2 w (.cells #[.slice GA N gc] 24) 33 #[.slice A n c, .slice (some ⟨FB, 0, none⟩) N fc, .slice SA sn sc];obtain ⟨V, hV⟩ := nm ((w.alloc (.cells #[.slice GA N gc] 24)).alloc (.cells #[.slice A n c, .slice (some ⟨FB, 0, none⟩) N fc, .slice SA sn sc] 33));obtain ⟨G, hGe⟩ := nm (w.heap.size);obtain ⟨I, hI⟩ := nm (w.heap.size + 1);rw [<- hV] at hal hP hQ;rw [<- hGe] at hP;rw [<- hI] at hQ;have hRV := hR.below (hal.mono hD)
 have hxl : (C.flatMap zbo).length = n := by rw [zdm, hCL, hn]
 have hdec : zgW (n / 8) (C.flatMap zbo) = some C := by
  rw [show n / 8 = C.length by omega];exact zhC C hF.good
 have hby : ∀ x ∈ C.flatMap zbo, 0 <= x /\ x < 256 := zjf C hF.good;have hls := zhX A n c (C.flatMap zbo) V D hRV hxl hnc hc (by omega) (Nat.le_trans hD hal.size) hby (by omega);have kq0 := bc hQ 0;obtain ⟨Hn, HT, HG, HD, HR, HF, Hlen, HCL⟩ := hd8 hn hT hG hD hR hF hlen hCL;obtain ⟨Hsn, Hal, HP, HQ, HV, HGe, HI, HRV⟩ := hd8 hsn hal hP hQ hV hGe hI hRV;obtain ⟨Hxl, Hdec, Hby, Hls⟩ := hd4 hxl hdec hby hls;clear hls hby hdec hxl hRV hI hGe hV hQ hP hal hsn hCL hlen hF hR hD hG hT hn;go_enter Tryd.func12, Tryd.ntmps12;go_upto_region 1 with fail;rw [<- HI.out, <- HGe.out, <- HV.out];go_wp2_with fail;refine Hls.out.mono ?_;rintro e w1 ⟨hp, hb1⟩
 rcases hp with ⟨l, mv, hl, rfl, hmo⟩ | ⟨hno, _⟩
 rotate_left
 ·rw [Hdec.out] at hno; cases hno
 rw [Hdec.out] at hl;injection hl with hl;subst hl;obtain ⟨N8, hN8⟩ := mn (n / 8);rw [hN8] at hmo
 have h8 : N8 = CL := by have := Hn.out; omega
 subst h8
 have hCp : 2 <= N8 := by
  have := (List.getElem?_eq_some_iff.1 HF.out.c1).1;have := HCL.out
  omega
 obtain ⟨MB, mc, rfl, hmb, hml, hmc1, hmc2⟩ := zbn hmo (by omega);unfold maxLen at hmc2;have hbw1 := Hal.out.trans (hb1.mono Hal.out.size);have hP1 := HP.out.below hb1 HP.out.lt;have hQ1 := HQ.out.below hb1 HQ.out.lt;have hT1 := HT.out.below hbw1;have hTb := Blk.new w1 31 #[.slice (some ⟨FB, 0, none⟩) N fc, .slice SA sn sc];have hal2 := (Below.refl w1.heap.size w1).alloc (Nat.le_refl _) (.cells #[.slice (some ⟨FB, 0, none⟩) N fc, .slice SA sn sc] 31);obtain ⟨TB, hTB⟩ := nm (w1.heap.size);obtain ⟨W2, hW2⟩ := nm (w1.alloc (.cells #[.slice (some ⟨FB, 0, none⟩) N fc, .slice SA sn sc] 31));rw [<- hW2] at hTb hal2;rw [<- hTB] at hTb;have hbw2 := hbw1.trans (hal2.mono hbw1.size);have hP2 := hP1.below hal2 hP1.lt;have hT2 := hT1.below hal2;have hmo2 := ownB hmo hal2;have hrt := ziV hT2;have hTk := hTb;have hPk := hP2;have kq1 := bc hQ1 1;have kq2 := bc hQ1 2;have kt0 := bc hTk 0;have kt1 := bc hTk 1;have kp0 := bc hPk 0;clear kq0;obtain ⟨a0, a1, a2, a3, a4⟩ := zjd hmo2 HF.out.c0 (by omega);obtain ⟨b0, b1, b2, b3, b4⟩ := zjd hmo2 HF.out.c1 (by omega);simp only [Nat.zero_mul, Nat.zero_add, Nat.one_mul] at a0 a1 a2 a3 a4 b0 b1 b2 b3 b4;obtain ⟨Hb1, Hmo, Hbw1, HP1, HQ1, HT1, HTb, Hal2⟩ := hd8 hb1 hmo hbw1 hP1 hQ1 hT1 hTb hal2;obtain ⟨HTB, HW2, Hbw2, HP2, HT2, Hmo2, Hrt, HTk⟩ := hd8 hTB hW2 hbw2 hP2 hT2 hmo2 hrt hTk;obtain ⟨HPk, HN8⟩ := hd2 hPk hN8;clear hN8 hPk hTk hrt hmo2 hT2 hP2 hbw2 hW2 hTB hal2 hTb hT1 hQ1 hP1 hbw1 hmo hb1;go_upto_region 3 with fail;rw [<- HTB.out, <- HW2.out];go_wp2_with fail;refine Hrt.out.mono ?_;rintro e w3 ⟨rfl, hb3⟩;have hbw3 := Hbw2.out.trans (hb3.mono Hbw2.out.size);have hTk := HTb.out.below hb3 HTb.out.lt;have hPk := HP2.out.below hb3 HP2.out.lt;have hT3 := HT2.out.below hb3;have hmo3 := ownB Hmo2.out hb3;clear kq1 kq2 kt0 kt1 kp0 a0 a1 a2 a3 a4 b0 b1 b2 b3 b4;obtain ⟨a0, a1, a2, a3, a4⟩ := zjd hmo3 HF.out.c0 (by omega);obtain ⟨b0, b1, b2, b3, b4⟩ := zjd hmo3 HF.out.c1 (by omega);simp only [Nat.zero_mul, Nat.zero_add, Nat.one_mul] at a0 a1 a2 a3 a4 b0 b1 b2 b3 b4;have kt0 := bc hTk 0;have kp0 := bc hPk 0;obtain ⟨Hbw3, HT3, HP3, HTM, Hmo3, Hb3⟩ := hd6 hbw3 hTk hPk hT3 hmo3 hb3;clear hb3 hmo3 hT3 hPk hTk hbw3;go_upto_region 7 with fail;clear kt0 kp0 a0 a1 a2 a3 a4 b0 b1 b2 b3 b4
 go_loopg [8, 71] N (fun gk fv iv wr => ∃ j : Nat, j + gk = N /\ iv = .int .i64 j /\ fv = .int .i64 (st j : Nat) /\ Hid (Below w3.heap.size w3 wr))
 case atStart => exact ⟨0, by omega, rfl, by rw [HF.out.first]; rfl, Lib.hid (Below.refl _ _)⟩
 case round =>
  obtain ⟨j, hj, rfl, rfl, hbj⟩ := hrel;have hPr := HP3.out.below hbj.out HP3.out.lt;have hTr := HT3.out.below hbj.out HT3.out.lt;have hMr := HTM.out.below hbj.out;have hmr := ownB Hmo3.out hbj.out;have hbwr := Hbw3.out.trans (hbj.out.mono Hbw3.out.size)
  by_cases hjN : j < N
  ·have hjI : (j : Int) < N := by omega
   obtain ⟨q, hq⟩ : ∃ q, T.rows[j]? = some q := ⟨_, List.getElem?_eq_getElem (by rw [hMr.ok.rows]; exact hjN)⟩
   obtain ⟨g, hg⟩ : ∃ g, gs[j]? = some g := ⟨_, List.getElem?_eq_getElem (by rw [Hlen.out]; exact hjN)⟩
   obtain ⟨pv, sv', ho1, ho2, hrow⟩ := hMr.row hq;obtain ⟨e1, e2, z0, z1, z8, hpl4, hpk, hsl6, hsa, hsb, hres⟩ := hMr.ok.row j q hq;obtain ⟨hpar, hpb, hgn4, hdf⟩ := HF.out.params j q g hq hg;have hent := HF.out.enter j q hq;have htop := hMr.ok.le (j + 1) N (by omega) (Nat.le_refl _);rw [HF.out.last, HCL.out] at htop;have hup := hMr.ok.up j hjN;obtain ⟨s0, hs0⟩ := mn (st j);obtain ⟨s1, hs1⟩ := mn (st (j + 1));obtain ⟨z, hz⟩ := mn (q.size);obtain ⟨rs, hrs⟩ := mn (q.resume);obtain ⟨pl, hpl⟩ := mn (q.params.length);obtain ⟨sl, hsl⟩ := mn (q.saves.length);rw [hpl] at ho1 hpl4;rw [hsl] at ho2;obtain ⟨KP, kpc, hkp, hkpc1, hkpc2, _⟩ := zak ho1;obtain ⟨SV, svc, hsv, hsvc1, hsvc2, _⟩ := zak ho2;unfold maxLen at hkpc2 hsvc2;subst hkp hsv;have r0 := hrow 0 _ rfl;have r1 := hrow 1 _ rfl;have r2 := hrow 2 _ rfl;have r3 := hrow 3 _ rfl;have r4 := hrow 4 _ rfl;have r5 := hrow 5 _ rfl;rw [e1, hs0, Nat.add_zero] at r0;rw [e2, hs1] at r1;rw [hz] at r2 z0 z1 hent;rw [hrs] at r5 hdf;rw [hs0, hs1] at hup;rw [hs1] at htop;rw [hs0] at hent ⊢;obtain ⟨ad, gpv, gkv, giv, gnv, hAe, _, hM⟩ := (HG.out.below (hbwr.mono HD.out)).at_ hg;subst hAe;obtain ⟨PA, pn, pc, KA, kn, kc, IA, il, ic, NA, nn, nc, rfl, rfl, rfl, rfl, hpn, hkn, hil, hnn⟩ := hM.forms;have m0 := hM.c0;have m1 := hM.c1;have m2 := hM.c2;have m3 := hM.c3;have m4 := hM.c4;have m5 := hM.c5;have m6 := hM.c6;have m7 := hM.c7
   have hpe : pn = pl := by rw [<- hpn, <- hpl, hpar, List.length_map]
   subst hpe
   have hgl : (ad.add (j * 8)).block < wr.heap.size := by have := hM.lt; have := hbwr.size; have := HD.out; omega
   obtain ⟨R1, hR1⟩ := nm (wr.heap.size);obtain ⟨R2, hR2⟩ := nm (wr.heap.size + 1);have hX := (Blk.new wr 48 #[.int .i64 (s0 : Nat), .int .i64 (s1 : Nat), .int .i64 z, .slice KP pn kpc, .slice SV sl svc, .int .i64 rs]).alloc (.cells #[.slice PA pn pc, .slice KA kn kc, .int .i64 g.cells, .slice IA il ic, .bool g.result, .int .i64 g.keep, .slice NA nn nc, .int .i64 g.entry] 44);have hY := Blk.new2 wr (.cells #[.int .i64 (s0 : Nat), .int .i64 (s1 : Nat), .int .i64 z, .slice KP pn kpc, .slice SV sl svc, .int .i64 rs] 48) 44 #[.slice PA pn pc, .slice KA kn kc, .int .i64 g.cells, .slice IA il ic, .bool g.result, .int .i64 g.keep, .slice NA nn nc, .int .i64 g.entry];have hal := ((Below.refl wr.heap.size wr).alloc (Nat.le_refl _) (.cells #[.int .i64 (s0 : Nat), .int .i64 (s1 : Nat), .int .i64 z, .slice KP pn kpc, .slice SV sl svc, .int .i64 rs] 48)).alloc (by simp) (.cells #[.slice PA pn pc, .slice KA kn kc, .int .i64 g.cells, .slice IA il ic, .bool g.result, .int .i64 g.keep, .slice NA nn nc, .int .i64 g.entry] 44);obtain ⟨W1, hW1⟩ := nm ((wr.alloc (.cells #[.int .i64 (s0 : Nat), .int .i64 (s1 : Nat), .int .i64 z, .slice KP pn kpc, .slice SV sl svc, .int .i64 rs] 48)).alloc (.cells #[.slice PA pn pc, .slice KA kn kc, .int .i64 g.cells, .slice IA il ic, .bool g.result, .int .i64 g.keep, .slice NA nn nc, .int .i64 g.entry] 44));rw [<- hW1] at hX hY hal;rw [<- hR1] at hX;rw [<- hR2] at hY;have hm1 := ownB hmr hal;obtain ⟨a0, a1, a2, a3, a4⟩ := zjd hm1 hent (by omega);have hb1 := hbj.out.trans (hal.mono hbj.out.size);have hM1 := hM.below (hal.mono (by have := hbwr.size; have := HD.out; omega));have ho11 := ownB ho1 hal;have hXk := hX;have hYk := hY;have hPk := hPr;have hPl := hPr.lt;have kx0 := bc hXk 0;have kx1 := bc hXk 1;have kx2 := bc hXk 2;have kx3 := bc hXk 3;have ky0 := bc hYk 0;have kp0 := bc hPk 0
   have f3 : ¬ (N8 : Int) < s1 := by omega
   have hw32 : IntKind.i32.wrap z = z := by rw [IntKind.wrap_i32]; omega
   have hs0l : s0 < N8 := by omega
   have hs0I : (s0 : Int) < N8 := by omega
   obtain ⟨HPr, HTr, HMr, Hmr, Hbwr, Hq, Hg, Ho1⟩ := hd8 hPr hTr hMr hmr hbwr hq hg ho1;obtain ⟨Ho2, Hrow, He1, He2, Hpar, Hpb, Hdf, Hent⟩ := hd8 ho2 hrow e1 e2 hpar hpb hdf hent;obtain ⟨Hup, Htop, Hz, Hrs, Hpl, Hsl, HM, Hpn⟩ := hd8 hup htop hz hrs hpl hsl hM hpn;obtain ⟨Hkn, Hil, Hnn, HR1, HR2, HX, HY, Hal⟩ := hd8 hkn hil hnn hR1 hR2 hX hY hal;obtain ⟨HW1, Hm1, Hb1, HM1, Ho11, HXk, HYk, HPk⟩ := hd8 hW1 hm1 hb1 hM1 ho11 hXk hYk hPk;obtain ⟨Hbj, HS0, HS1, Hz8, Hsa, Hsb, Hres, Hpk⟩ := hd8 hbj hs0 hs1 z8 hsa hsb hres hpk;clear hpk hres hsb hsa z8 hs1 hs0 hbj hPk hYk hXk ho11 hM1 hb1 hm1 hW1 hal hY hX hR2 hR1 hnn hil hkn hpn hM hsl hpl hrs hz htop hup hent hdf hpb hpar e2 e1 hrow ho2 ho1 hg hq hbwr hmr hMr hTr hPr;go_upto_region 10 with fail;rw [<- HR2.out, <- HR1.out, <- HW1.out];clear r0 r1 r2 r3 r4 r5 m0 m1 m2 m3 m4 m5 m6 m7
   go_cut [112] from 81 to 112 (fun t wx => t = .bool false /\ wx = W1.drew)
   case first =>
    refine wp_region_noPanic ?_;refine wp_region_held_drew (S := fun W => W.cell? ⟨R1, 0, none⟩ = some (.int .i64 (s0 : Nat)) /\ W.cell? ⟨R1, 1, none⟩ = some (.int .i64 (s1 : Nat)) /\ W.cell? ⟨R1, 2, none⟩ = some (.int .i64 z) /\ W.cell? ⟨R1, 3, none⟩ = some (.slice KP pn kpc) /\ W.cell? ⟨R2, 0, none⟩ = some (.slice PA pn pc) /\ W.cell? ⟨MB, s0 * 5, none⟩ = some (.int .u8 11) /\ W.cell? ⟨MB, s0 * 5 + 1, none⟩ = some (.int .i64 0) /\ W.cell? ⟨MB, s0 * 5 + 2, none⟩ = some (.int .i64 0) /\ W.cell? ⟨MB, s0 * 5 + 3, none⟩ = some (.int .i64 0) /\ W.cell? ⟨MB, s0 * 5 + 4, none⟩ = some (.int .i32 z)) (by kernel_rfl) ⟨kx0, kx1, kx2, kx3, ky0, a0, a1, a2, a3, a4⟩ (fun hHeld => ?_);refine zab 0 ?_;refine zab 1 ?_;refine zab 2 ?_;refine zab 3 ?_;refine zab 4 ?_;refine zab 5 ?_;refine zab 6 ?_;refine zab 7 ?_;refine zab 8 ?_;refine zab 9 ?_;refine zab 10 ?_;refine zab 11 ?_;refine zab 12 ?_;refine zab 13 ?_;refine zab 14 ?_;refine zab 15 ?_;refine zab 16 ?_;refine zab 17 ?_;refine zab 18 ?_;refine zab 19 ?_;refine zab 20 ?_;refine zab 21 ?_;refine zab 22 ?_;refine zab 23 ?_;refine zab 24 ?_;refine zab 25 ?_;refine zab 26 ?_;refine zab 27 ?_;refine zab 28 ?_;refine zab 29 ?_;refine zab 30 ?_;refine zab 31 ?_;refine wpAnyH_done (by kernel_rfl) ?_ _;refine NoPanic.normal ?_;clear hHeld;go_wp2_with fail;go_meet;exact ⟨rfl, rfl⟩
   case rest =>
    obtain ⟨rfl, rfl⟩ := hcut;clear kx0 kx1 kx2 kx3 ky0 kp0 a0 a1 a2 a3 a4;have hYd := HY.out.drew;have hb1d := Hb1.out.drew;have ky6 := bc hYd 6;obtain ⟨HYd, Hb1d⟩ := hd2 hYd hb1d;clear hb1d hYd;go_upto_region 14 with fail;clear ky6
    obtain ⟨wa, rfl⟩ : ∃ x, x = wr := ⟨_, rfl⟩
    obtain ⟨ga, rfl⟩ : ∃ x, x = gk := ⟨_, rfl⟩
    go_loopg [12, 116] nn (fun gk dv iv wx => ∃ k : Nat, k + gk = nn /\ iv = .int .i64 k /\ ∃ b, dv = .bool b /\ Hid (zbi (g.nodes.take k) = b) /\ Hid (Below W1.heap.size W1.drew wx))
    case atStart => exact ⟨0, by omega, rfl, false, rfl, Lib.hid rfl, Lib.hid (Below.refl _ _)⟩
    case round =>
     obtain ⟨k, hk, rfl, b, rfl, hdb, hbk⟩ := hrel;have hbk1 := Below.of_drew hbk.out;have hMk := HM1.out.below (hbk1.mono (by have := Hbwr.out.size; have := HD.out; have := Hal.out.size; omega))
     by_cases hkn : k < nn
     ·have hkI : (k : Int) < nn := by omega
      have hnn4 : nn <= 4096 := by rw [<- Hnn.out]; exact hgn4
      obtain ⟨x, hx⟩ : ∃ x, g.nodes[k]? = some x := ⟨_, List.getElem?_eq_getElem (by rw [Hnn.out]; exact hkn)⟩
      have hdn : zbi (g.nodes.take (k + 1)) = (b || decide (x.op = 13)) := by
       have := hdb.out;unfold zbi at this ⊢;rw [List.take_add_one, hx, Option.toList_some, List.any_append, this];simp
      obtain ⟨nad, cs, hna, _, _, _, ⟨av, hcs, hav⟩, z0, nj⟩ := zaE.at_ hMk.nodes hx;subst hna hcs;obtain ⟨AA, aac, hava, _, _, _⟩ := hav.slice;subst hava;have n0 : wr.cell? (nad.add (k * 12)) = some (.int .u8 x.op) := z0 _ rfl;have n1 := nj 1 _ (by omega) rfl;have n2 := nj 2 _ (by omega) rfl;have n3 := nj 3 _ (by omega) rfl;have n4 := nj 4 _ (by omega) rfl;have n5 := nj 5 _ (by omega) rfl;have n6 := nj 6 _ (by omega) rfl;have n7 := nj 7 _ (by omega) rfl;have n8 := nj 8 _ (by omega) rfl;have n9 := nj 9 _ (by omega) rfl;have n10 := nj 10 _ (by omega) rfl;have n11 := nj 11 _ (by omega) rfl;clear nj z0;have hPn := Blk.new wr 55 (zae x (.slice AA x.args.length aac)).toArray;have hbn := hbk.out.alloc hbk.out.size (.cells (zae x (.slice AA x.args.length aac)).toArray 55);obtain ⟨G3, hG3⟩ := nm (wr.heap.size);obtain ⟨W3, hW3⟩ := nm (wr.alloc (.cells (zae x (.slice AA x.args.length aac)).toArray 55));rw [<- hW3] at hPn hbn;rw [<- hG3] at hPn;have hW3' := hW3.symm;simp only [zae] at hPn hW3';have kn0 := bc hPn 0;obtain ⟨Hdb, Hbk, Hbk1, HMk, Hx, Hdn, Hav, HPn⟩ := hd8 hdb hbk hbk1 hMk hx hdn hav hPn;obtain ⟨Hbn, HG3, HW3, HW3E⟩ := hd4 hbn hG3 hW3 hW3';clear hW3' hW3 hG3 hbn hPn hav hdn hx hMk hbk1 hbk hdb;go_upto_region 16 with fail;rw [HW3E.out, <- HG3.out];clear n0 n1 n2 n3 n4 n5 n6 n7 n8 n9 n10 n11
      cases b
      ·by_cases h13 : x.op = 13
       ·have hq13 : (x.op == 13) = true := by rw [h13]; rfl
        have hdd : zbi (g.nodes.take (k + 1)) = true := by rw [Hdn.out, h13]; rfl
        obtain ⟨H13, Hdd⟩ := hd2 h13 hdd;clear hdd h13;go_wp2_with fail
        go_roundg (gk - 1)
        case measure => omega
        case rel => exact ⟨k + 1, by omega, by go_num, true, rfl, Hdd, Hbn⟩
       ·have hq13 : (x.op == 13) = false := by rw [beq_eq_false_iff_ne]; exact h13
        have hdd : zbi (g.nodes.take (k + 1)) = false := by rw [Hdn.out]; simp [h13]
        obtain ⟨H13, Hdd⟩ := hd2 h13 hdd;clear hdd h13;go_wp2_with fail
        go_roundg (gk - 1)
        case measure => omega
        case rel => exact ⟨k + 1, by omega, by go_num, false, rfl, Hdd, Hbn⟩
      ·have hdd : zbi (g.nodes.take (k + 1)) = true := by rw [Hdn.out]; rfl
       have Hdd := Lib.hid hdd;clear hdd;go_wp2_with fail
       go_roundg (gk - 1)
       case measure => omega
       case rel => exact ⟨k + 1, by omega, by go_num, true, rfl, Hdd, Hbn⟩
     ·obtain rfl : nn = k := by omega
      have hkI : ¬ (nn : Int) < nn := by omega
      have hbd := hdb.out;rw [List.take_of_length_le (by rw [Hnn.out]; omega)] at hbd;have hXk := HX.out.below hbk1 HX.out.lt;have hYk := HY.out.below hbk1 HY.out.lt;have hbe := Hb1d.out.trans (hbk.out.mono Hb1.out.size);have hbe' : Below w.heap.size w wr := Hbw3.out.trans (hbe.mono Hbw3.out.size);have ho1k := ownB (ownB Ho11.out hbk1) (Below.refl _ _);have kx1 := bc hXk 1;have kx3 := bc hXk 3;have kx5 := bc hXk 5;have ky0 := bc hYk 0;have ky1 := bc hYk 1;obtain ⟨Hdb, Hbk, Hbk1, HMk, Hbd, HXk2, HYk2, Hbe⟩ := hd8 hdb hbk hbk1 hMk hbd hXk hYk hbe;obtain ⟨Hbe', Ho1k⟩ := hd2 hbe' ho1k;clear ho1k hbe' hbe hYk hXk hbd hMk hbk1 hbk hdb;go_upto_region 18 with fail
      go_cut [133] from 127 to 133 (fun t wx => t = .bool false /\ wx = wr)
      case first =>
       rcases Hdf.out with h1 | ⟨h1, h2⟩
       ·have n2 : ¬ 0 <= rs := by omega
        have H1 := Lib.hid h1;clear h1;go_wp2_with fail;go_meet;exact ⟨rfl, rfl⟩
       ·have h3 : b = true := by rw [<- Hbd.out, h2]
        subst h3;have H2 := Lib.hid h2;clear h2;go_wp2_with fail;go_meet;exact ⟨rfl, rfl⟩
      case rest =>
       obtain ⟨rfl, rfl⟩ := hcut;go_upto_region 21 with fail;have hdk : D <= wc.heap.size := Nat.le_trans HD.out Hbe'.out.size;have hMc := HMk.out;obtain ⟨_, _, hkcA, hkcB, _, hkR⟩ := hMc.kinds.slice;obtain ⟨_, _, hpcA, hpcB, _, hpR⟩ := hMc.params.slice;injection hkcA with e1 e2 e3;injection hpcA with f1 f2 f3;subst e1 e3 f1 f3;rw [Hkn.out] at hkR hkcB;rw [Hpn.out] at hpR hpcB;clear e2 f2;obtain ⟨HMc, HkR, HpR, Hdk⟩ := hd4 hMc hkR hpR hdk;clear hdk hpR hkR hMc;clear kx5
       go_loopg [137] pn (fun gk iv wx => ∃ k : Nat, k + gk = pn /\ iv = .int .i64 k /\ ∃ d, wx = wc.drewN d)
       case atStart => exact ⟨0, by omega, rfl, 0, rfl⟩
       case round =>
        obtain ⟨k, hk, rfl, d, rfl⟩ := hrel
        by_cases hkp : k < pn
        ·have hkI : (k : Int) < pn := by omega
         obtain ⟨pa, u, hA, _, hu, hcu⟩ := (HpR.out.below (below_drewN (Below.refl _ wc) d)).at_ hkp;subst hA
         obtain ⟨p, hp⟩ : ∃ p, g.params[k]? = some p := ⟨_, List.getElem?_eq_getElem (by rw [Hpn.out]; exact hkp)⟩
         have hu2 : u = .int .i64 p := by
          rw [List.getElem?_map, hp] at hu;injection hu with hu;exact hu.symm
         subst hu2;obtain ⟨p0, p1⟩ := Hpb.out p (List.mem_of_getElem? hp);rw [Hkn.out] at p1;obtain ⟨pp, rfl⟩ := Int.eq_ofNat_of_zero_le p0
         have hppn : pp < kn := by omega
         obtain ⟨ka, v, hKA, _, hv, hcv⟩ := (HkR.out.below (below_drewN (Below.refl _ wc) d)).at_ hppn;subst hKA
         obtain ⟨kk, hkk⟩ : ∃ kk, g.kinds[pp]? = some kk := ⟨_, List.getElem?_eq_getElem (by rw [Hkn.out]; exact hppn)⟩
         have hv2 : v = .int .u8 kk := by
          rw [List.getElem?_map, hkk] at hv;injection hv with hv;exact hv.symm
         subst hv2;obtain ⟨qa, v, hQA, _, hw', hcw⟩ := (zdO (ownB Ho1k.out (below_drewN (Below.refl _ wc) d))).at_ hkp;subst hQA
         have hqk : q.params[k]? = some kk := by
          rw [Hpar.out, List.getElem?_map, hp];show some (g.kinds.getD (((pp : Nat) : Int)).toNat 0) = _;rw [Int.toNat_natCast, List.getD_eq_getElem?_getD, hkk]; rfl
         have hw2 : v = .int .u8 kk := by
          unfold zcf at hw';rw [List.getElem?_map, hqk] at hw';injection hw' with hw';exact hw'.symm
         subst hw2
         have hne : (kk != kk) = false := by simp
         have hppI : (pp : Int) < kn := by omega
         obtain ⟨Hp, Hu, Hkk, Hv, Hqk, Hw'⟩ := hd6 hp hu hkk hv hqk hw';clear hw' hqk hv hkk hu hp;go_upto_region 23 with fail;refine wp_region_noPanic ?_;refine wp_region_held_drew (S := fun W => W.cell? ⟨R1, 3, none⟩ = some (.slice (some qa) pn kpc) /\ W.cell? (qa.add k) = some (.int .u8 kk) /\ W.cell? ⟨R2, 1, none⟩ = some (.slice (some ka) kn kc) /\ W.cell? (ka.add pp) = some (.int .u8 kk)) (by kernel_rfl) ⟨kx3, hcw, ky1, hcv⟩ (fun hHeld => ?_);refine zab 0 ?_;refine zab 1 ?_;refine zab 2 ?_;refine zab 3 ?_;refine zab 4 ?_;refine zab 5 ?_;refine zab 6 ?_;refine zab 7 ?_;refine zab 8 ?_;refine zab 9 ?_;refine zab 10 ?_;refine wpAnyH_done (by kernel_rfl) ?_ _;refine NoPanic.normal ?_;clear hHeld hcu hcv hcw;go_wp2_with fail
         go_roundg (gk - 1)
         case measure => omega
         case rel => exact ⟨k + 1, by omega, by go_num, d + 1, rfl⟩
        ·obtain rfl : pn = k := by omega
         have hkI : ¬ (pn : Int) < pn := by omega
         have hbf := below_drewN Hbe.out d;have Hbf := Lib.hid hbf;clear hbf;go_wp2_with fail
         go_roundg (ga - 1)
         case measure => omega
         case rel => exact ⟨j + 1, by omega, by go_num, by rw [HS1.out], Hbf⟩
  ·obtain rfl : N = j := by omega
   have hjI : ¬ (N : Int) < N := by omega
   have hlast : st N = N8 := by rw [HF.out.last, HCL.out]
   rw [hlast];have hTk := hTr;obtain ⟨HPr, HTr, HMr, Hmr, Hbwr, Hlast, Hbj, HTk⟩ := hd8 hPr hTr hMr hmr hbwr hlast hbj hTk;clear hTk hbj hlast hbwr hmr hMr hTr hPr;go_upto_region 32 with fail
   obtain ⟨w0, rfl⟩ : ∃ x, x = wr := ⟨_, rfl⟩
   obtain ⟨g0, rfl⟩ : ∃ x, x = gk := ⟨_, rfl⟩
   go_loopg [17, 163] N8 (fun gk sv iv wx => ∃ k : Nat, k + gk = N8 /\ iv = .int .i64 k /\ ∃ s : Nat, sv = .int .i64 (s : Nat) /\ Hid (ze2 (C.take k) = s) /\ Hid (Below w3.heap.size w3 wx))
   case atStart => exact ⟨0, by omega, rfl, 0, rfl, Lib.hid rfl, Hbj⟩
   case round =>
    obtain ⟨k, hk, rfl, s, rfl, hcs, hbk⟩ := hrel;have hTr := HT3.out.below hbk.out HT3.out.lt
    by_cases hkn : k < N8
    ·have hkI : (k : Int) < N8 := by omega
     have hsk : s <= k := by
      rw [<- hcs.out];unfold ze2;exact Nat.le_trans (List.length_filter_le _ _) (by rw [List.length_take]; omega)
     have hMr := HTM.out.below hbk.out;have hmr := ownB Hmo3.out hbk.out
     obtain ⟨i, hi⟩ : ∃ i, C[k]? = some i := ⟨_, List.getElem?_eq_getElem (by rw [HCL.out]; exact hkn)⟩
     have hcn : ze2 (C.take (k + 1)) = s + if i.op = 9 then 1 else 0 := by
      have := hcs.out;unfold ze2 at this ⊢;rw [List.take_add_one, hi, Option.toList_some, List.filter_append, List.length_append, this]
      by_cases h9 : i.op = 9 <;> simp [h9]
     obtain ⟨a0, a1, a2, a3, a4⟩ := zjd hmr hi (by omega);have hX := Blk.new wr 71 #[.int .u8 i.op, .int .i64 i.d, .int .i64 i.a, .int .i64 i.b, .int .i32 i.imm];have hbn := hbk.out.alloc hbk.out.size (.cells #[.int .u8 i.op, .int .i64 i.d, .int .i64 i.a, .int .i64 i.b, .int .i32 i.imm] 71);have hal := (Below.refl wr.heap.size wr).alloc (Nat.le_refl _) (.cells #[.int .u8 i.op, .int .i64 i.d, .int .i64 i.a, .int .i64 i.b, .int .i32 i.imm] 71);obtain ⟨R1, hR1⟩ := nm (wr.heap.size);obtain ⟨W1, hW1⟩ := nm (wr.alloc (.cells #[.int .u8 i.op, .int .i64 i.d, .int .i64 i.a, .int .i64 i.b, .int .i32 i.imm] 71));rw [<- hW1] at hX hbn hal;rw [<- hR1] at hX;have hT1 := hTr.below hal hTr.lt;have hM1 := hMr.below hal;have hXk := hX;have hTk1 := hT1;have kx0 := bc hXk 0;have kt0 := bc hTk1 0;obtain ⟨Hcs, Hbk, HTr, HMr, Hmr, Hi, HX, Hbn⟩ := hd8 hcs hbk hTr hMr hmr hi hX hbn;obtain ⟨Hal, HR1, HW1, HT1, HM1, HXk, HTk1, Hsk⟩ := hd8 hal hR1 hW1 hT1 hM1 hXk hTk1 hsk;clear hsk hTk1 hXk hM1 hT1 hW1 hR1 hal hbn hX hi hmr hMr hTr hbk hcs;go_upto_region 34 with fail;rw [<- HR1.out, <- HW1.out];clear a0 a1 a2 a3 a4
     by_cases h9 : i.op = 9
     ·rw [if_pos h9] at hcn;obtain ⟨⟨f, hf, himm⟩, hin⟩ := HF.out.call k i Hi.out h9
      have hb9 : (i.op != 9) = false := by rw [h9]; rfl
      obtain ⟨H9, Hcn, Hin⟩ := hd3 h9 hcn hin;clear hin hcn h9;go_upto_region 37 with fail
      obtain ⟨wb, rfl⟩ : ∃ x, x = wr := ⟨_, rfl⟩
      obtain ⟨gb, rfl⟩ : ∃ x, x = gk := ⟨_, rfl⟩
      clear kx0 kt0
      go_loopg [20, 174] N (fun gk bv iv wx => ∃ j : Nat, j + gk = N /\ iv = .int .i64 j /\ ∃ b, bv = .bool b /\ Hid (f < j -> b = true) /\ Hid (Below W1.heap.size W1 wx))
      case atStart => exact ⟨0, by omega, rfl, false, rfl, Lib.hid (fun h => by omega), Lib.hid (Below.refl _ _)⟩
      case round =>
       obtain ⟨j, hj, rfl, b, rfl, hfb, hbx⟩ := hrel
       by_cases hjn : j < N
       ·have hjI : (j : Int) < N := by omega
        have hMx := HM1.out.below hbx.out;have hXx := HX.out.below hbx.out HX.out.lt
        obtain ⟨q, hq⟩ : ∃ q, T.rows[j]? = some q := ⟨_, List.getElem?_eq_getElem (by rw [hMx.ok.rows]; exact hjn)⟩
        obtain ⟨pv, sv', ho1, ho2, hrow⟩ := hMx.row hq;obtain ⟨e1, _⟩ := hMx.ok.row j q hq;obtain ⟨s0, hs0⟩ := mn (st j);obtain ⟨s1, hs1⟩ := mn (q.stop);obtain ⟨z, hz⟩ := mn (q.size);obtain ⟨rs, hrs⟩ := mn (q.resume);obtain ⟨pl, hpl⟩ := mn (q.params.length);obtain ⟨sl, hsl⟩ := mn (q.saves.length);rw [hpl] at ho1;rw [hsl] at ho2;obtain ⟨KP, kpc, hkp, _⟩ := zak ho1;obtain ⟨SV, svc, hsv, _⟩ := zak ho2;subst hkp hsv;have r0 := hrow 0 _ rfl;have r1 := hrow 1 _ rfl;have r2 := hrow 2 _ rfl;have r3 := hrow 3 _ rfl;have r4 := hrow 4 _ rfl;have r5 := hrow 5 _ rfl;rw [e1, hs0, Nat.add_zero] at r0;rw [hs1] at r1;rw [hz] at r2;rw [hrs] at r5;have hbx2 := hbx.out.alloc hbx.out.size (.cells #[.int .i64 (s0 : Nat), .int .i64 (s1 : Nat), .int .i64 z, .slice KP pl kpc, .slice SV sl svc, .int .i64 rs] 48);have hXl := hXx.lt;have kx4 := bc hXx 4;obtain ⟨im, him⟩ := mn (i.imm);rw [him] at kx4 himm
        have him2 : IntKind.i64.wrap im = im := by
         have h1 := HF.out.good i (List.mem_of_getElem? Hi.out);have h2 := h1.1.imm;rw [him] at h2;rw [IntKind.wrap_i64]; omega
        cases b
        ·by_cases hje : im = s0
         ·have hbe : (im == (s0 : Int)) = true := by rw [hje]; simp
          obtain ⟨Hfb, Hbx, HMx, HXx, Hq, Ho1, Ho2, Hrow⟩ := hd8 hfb hbx hMx hXx hq ho1 ho2 hrow;obtain ⟨He1, Hs0, Hs1, Hz, Hrs, Hpl, Hsl, Hbx2⟩ := hd8 e1 hs0 hs1 hz hrs hpl hsl hbx2;obtain ⟨Hje, Him, Himm⟩ := hd3 hje him himm;clear himm him hje hbx2 hsl hpl hrs hz hs1 hs0 e1 hrow ho2 ho1 hq hXx hMx hbx hfb;go_wp2_with fail
          go_roundg (gk - 1)
          case measure => omega
          case rel => exact ⟨j + 1, by omega, by go_num, true, rfl, Lib.hid (fun _ => rfl), Hbx2⟩
         ·have hbe : (im == (s0 : Int)) = false := by rw [beq_eq_false_iff_ne]; exact hje
          have hf2 : f < j + 1 -> false = true := fun h => by
           by_cases hfj : f = j
           ·exfalso
            apply hje
            rw [himm, hfj, hs0]
           ·exact hfb.out (by omega)
          obtain ⟨Hfb, Hbx, HMx, HXx, Hq, Ho1, Ho2, Hrow⟩ := hd8 hfb hbx hMx hXx hq ho1 ho2 hrow;obtain ⟨He1, Hs0, Hs1, Hz, Hrs, Hpl, Hsl, Hbx2⟩ := hd8 e1 hs0 hs1 hz hrs hpl hsl hbx2;obtain ⟨Hf2, Hje, Him, Himm⟩ := hd4 hf2 hje him himm;clear himm him hje hf2 hbx2 hsl hpl hrs hz hs1 hs0 e1 hrow ho2 ho1 hq hXx hMx hbx hfb;go_wp2_with fail
          go_roundg (gk - 1)
          case measure => omega
          case rel => exact ⟨j + 1, by omega, by go_num, false, rfl, Lib.hid Hf2.out, Hbx2⟩
        ·have hf2 : f < j + 1 -> true = true := fun _ => rfl
         obtain ⟨Hfb, Hbx, HMx, HXx, Hq, Ho1, Ho2, Hrow⟩ := hd8 hfb hbx hMx hXx hq ho1 ho2 hrow;obtain ⟨He1, Hs0, Hs1, Hz, Hrs, Hpl, Hsl, Hbx2⟩ := hd8 e1 hs0 hs1 hz hrs hpl hsl hbx2;obtain ⟨Him, Himm⟩ := hd2 him himm;clear himm him hbx2 hsl hpl hrs hz hs1 hs0 e1 hrow ho2 ho1 hq hXx hMx hbx hfb;go_wp2_with fail
         go_roundg (gk - 1)
         case measure => omega
         case rel => exact ⟨j + 1, by omega, by go_num, true, rfl, Lib.hid (fun _ => rfl), Hbx2⟩
       ·obtain rfl : N = j := by omega
        have hjI : ¬ (N : Int) < N := by omega
        have hbt : b = true := hfb.out hf;subst hbt;have hTx := HT1.out.below hbx.out HT1.out.lt;have hMx := HM1.out.below hbx.out;have hsy := zk4 hMx (a := k + 1) Hin.out;have hbw := Hbn.out.trans (hbx.out.mono Hbn.out.size)
        have hk1 : (k : Int) + 1 = ((k + 1 : Nat) : Int) := by omega
        have hsn0 : s + 1 <= 1048577 := by have := Hsk.out; omega
        have kt0 := bc hTx 0;have kt1 := bc hTx 1;rw [<- hk1] at hsy;obtain ⟨Hfb, Hbx, HTx, HMx, Hsy, Hbw, Hk1, Himm⟩ := hd8 hfb hbx hTx hMx hsy hbw hk1 himm;clear himm hk1 hbw hsy hMx hTx hbx hfb;go_wp2_with fail;refine Hsy.out.mono ?_;rintro e w9 ⟨⟨jj, rfl⟩, hb9⟩;have hbw9 := Hbw.out.trans (hb9.mono Hbw.out.size);obtain ⟨Hb9, Hbw9⟩ := hd2 hb9 hbw9;clear hbw9 hb9;go_wp2_with fail
        go_roundg (gb - 1)
        case measure => omega
        case rel => exact ⟨k + 1, by omega, by go_num, s + 1, by go_num, Lib.hid Hcn.out, Hbw9⟩
     ·rw [if_neg h9, Nat.add_zero] at hcn
      have hb9 : (i.op != 9) = true := by simp [h9]
      obtain ⟨H9, Hcn⟩ := hd2 h9 hcn;clear hcn h9;go_wp2_with fail
      go_roundg (gk - 1)
      case measure => omega
      case rel => exact ⟨k + 1, by omega, by go_num, s, rfl, Hcn, Hbn⟩
    ·obtain rfl : N8 = k := by omega
     have hkI : ¬ (N8 : Int) < N8 := by omega
     have hse : s = sn := by
      have := hcs.out;rw [List.take_of_length_le (by rw [HCL.out]; omega), HF.out.count] at this;rw [Hsn.out, this]
     subst hse;have hfin := Hbw3.out.trans (hbk.out.mono Hbw3.out.size);have hTl := hTr;have kt1 := bc hTl 1;obtain ⟨Hcs, Hbk, HTr, HTl, Hfin⟩ := hd5 hcs hbk hTr hTl hfin;clear hfin hTl hTr hbk hcs;go_wp2_with fail;go_ret;exact ⟨rfl, Hfin.out⟩
end
theorem zi6 {gs : List zad} (hc : za3 gs true = true) (hs : zcO gs) (ho : zbk gs = true) : ∃ g ∈ gs, 2000 < g.nodes.length := by
 unfold zbk at ho;rw [List.any_eq_true] at ho;obtain ⟨g, hg, h⟩ := ho;obtain ⟨hns, he⟩ := zge hc hs hg;have hl := (zdG hns (entry := g.entry.toNat) (by omega)).len;have h2 := of_decide_eq_true h;refine ⟨g, hg, ?_⟩;simp only [zaK, zea, List.length_mapIdx] at h2
 omega
theorem zh0 {gs : List zad} (hc : za3 gs true = true) : ∀ g ∈ gs, ∀ x ∈ g.nodes, (zaT x).length <= 1048576 := fun g hg x hx => by
 obtain ⟨_, hn⟩ := zbu hc hg
 have hp : ∀ f ∈ gs, f.params.length <= 4 := fun f hf => (zby (zbu hc hf).1).2.1
 have := (zgy (hn x hx) hp (zfd hc g hg).k0).2
 omega
section
variable {gs : List zad}
theorem zeP (ok : ∀ g' ∈ gs.map zaK, zd1 (gs.map zaK) g') (h16 : gs.length <= 16) : (zay (zav (gs.map zaK))).length <= 1048576 := by
 have h1 := zgP (gs.map zaK) ok;rw [List.length_map] at h1;unfold zco.sz at h1;unfold zay;rw [zbH]
 omega
theorem zkH (hc : za3 gs true = true) (hs : zcO gs) (himm : ∀ g ∈ gs, ∀ x ∈ g.nodes, U64 x.imm) (hu : gs.any zcA = false) (ho : zbk gs = false) : zbC gs = 0 := by
 have ok := zgF hc hs ho himm;have h16 := (zbI hc).2;exact zfK gs hc hu ho (List.all_eq_true.2 fun m hm => (zdo _ ok m hm).2) (by have := zeP ok h16; omega)
theorem zkv (hc : za3 gs true = true) : ∀ g ∈ gs.map zaK, ∀ k ∈ g.kinds, k <= 1 := fun g hg => by
 obtain ⟨g0, h0, rfl⟩ := List.mem_map.1 hg;obtain ⟨hh, _⟩ := zbu hc h0;exact (zgg hh).2.2.2.2
theorem zmc (hc : za3 gs true = true) (hs : zcO gs) (himm : ∀ g ∈ gs, ∀ x ∈ g.nodes, U64 x.imm) (ho : zbk gs = false) : znu (zav (gs.map zaK)) gs.length (za0 (gs.map zaK)) := by
 have ok := zgF hc hs ho himm;have h16 := (zbI hc).2;have h := zkJ ok (zkv hc) (by rw [List.length_map]; exact h16) (zeP ok h16)
 rwa [List.length_map] at h
theorem zlD (hc : za3 gs true = true) (hs : zcO gs) (himm : ∀ g ∈ gs, ∀ x ∈ g.nodes, U64 x.imm) (ho : zbk gs = false) : zna gs (zay (zav (gs.map zaK))) (zav (gs.map zaK)) gs.length (za0 (gs.map zaK)) := by
 have ok := zgF hc hs ho himm;have hl := zbI hc;have hcs := zeP ok hl.2;have hml : (gs.map zaK).length = gs.length := List.length_map ..;obtain ⟨t0, t1⟩ := zkI ok
 have hget : ∀ (k : Nat) m, (zav (gs.map zaK)).code[k]? = some m -> m.op ≠ 9 -> (zay (zav (gs.map zaK)))[k]? = some m := fun k m hm h9 => by
  have hk := (List.getElem?_eq_some_iff.1 hm).1
  have hk' : k < (zay (zav (gs.map zaK))).length := by unfold zay; rw [zbH]; exact hk
  have he : (zay (zav (gs.map zaK)))[k]? = some (zay (zav (gs.map zaK)))[k] := List.getElem?_eq_getElem hk';obtain ⟨x, hx, hp⟩ := zc2 _ _ _ he;rw [hm] at hx;injection hx with hx;subst hx
  rcases zeZ ok rfl hcs he with ⟨_, h⟩ | ⟨h, _⟩
  ·rw [he];rw [hm] at h;exact h.symm
  ·exfalso
   rw [hp, zeJ] at h;exact h9 h
 refine ⟨rfl, hl.1, hcs, fun m hm => zdo _ ok m hm, hget 0 _ t0 (by show (13 : Int) ≠ 9; omega), hget 1 _ t1 (by show (13 : Int) ≠ 9; omega), rfl, ?_, fun i r hr => ?_, fun i r g hr hg => ?_, fun k m hk h9 => ?_, zfW ok⟩
 ·rw [<- hml]; exact zd6
 ·have hi : i < gs.length := by rw [<- hml, <- (zcH (gs.map zaK)).1]; exact (List.getElem?_eq_some_iff.1 hr).1
  have hg : (gs.map zaK)[i]? = some (gs.map zaK)[i] := List.getElem?_eq_getElem (by omega);obtain ⟨r', hr', h⟩ := zdn ok hg;rw [hr] at hr';injection hr' with hr';subst hr';rw [h.size];refine hget _ _ ?_ (by show (11 : Int) ≠ 9; omega)
  have hil : i < (gs.map zaK).length := by omega
  refine zeO ok (i := i + 1) ?_;rw [zbA hil]
  have hinv : zbl (gs.map zaK).length (zav ((gs.map zaK).take i)).code (zav ((gs.map zaK).take i)).calls (fun _ => none) (zav ((gs.map zaK).take i)).sites := zda _ fun g hg => ok g (List.mem_of_mem_take hg)
  exact zlF _ (ok _ (List.getElem_mem _)) hinv
 ·have hgl : (gs.map zaK)[i]? = some (zaK g) := by rw [List.getElem?_map, hg]; rfl
  obtain ⟨r', hr', h⟩ := zdn ok hgl;rw [hr] at hr';injection hr' with hr';subst hr';have hgm := List.mem_of_getElem? hg;obtain ⟨hns, he⟩ := zge hc hs hgm;have hok := ok _ (List.mem_of_getElem? hgl);refine ⟨h.params, hok.params, hns.len, ?_⟩
  rcases h.resume with h | ⟨h1, _, h3⟩
  ·exact .inl h
  ·refine .inr ⟨by omega, ?_⟩;unfold zbi at h3 ⊢;rw [List.any_eq_true] at h3 ⊢;obtain ⟨x, hx, hd⟩ := h3;have h13 := of_decide_eq_true hd
   rcases zet hns he hx with ⟨n, hn, a, b, rfl⟩ | ⟨a, b, rfl⟩
   ·exact ⟨n, hn, decide_eq_true h13⟩
   ·exfalso
    revert h13
    show ¬ ((10 : Int) = 13)
    omega
 ·rcases zeZ ok rfl hcs hk with ⟨h, _⟩ | ⟨_, ⟨f, hf, hm⟩, hs'⟩
  ·exact absurd h9 h
  ·exact ⟨⟨f, by omega, by rw [hm]⟩, hs'⟩
end
end Go.Proofs.YtnfjjliiajaijaaDoor
