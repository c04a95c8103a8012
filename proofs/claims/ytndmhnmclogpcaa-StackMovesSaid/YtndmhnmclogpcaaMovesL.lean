/- Walk of StackMoves: what every move of a stack does. Conditions: the arguments lie in memory. -/
import Derived.Test.YtndmhnmclogpcaaSOpen
import Derived.Deep.MidRow
set_option linter.unusedVariables false
set_option linter.unusedSimpArgs false
namespace Go.Proofs.Ytndmhnmclogpcaa
open Go.RowKit

theorem RefAt.lower {w : World} {lo lo' q rg wg : Nat} {cv : Value} {regs : List Int} {pc base : Int} {ws : List Int} (h : RefAt w lo q rg wg cv regs pc base ws) (hl : lo' ≤ lo) : RefAt w lo' q rg wg cv regs pc base ws :=
  ⟨h.blk, h.rblk, h.wblk, ⟨Nat.le_trans hl h.low.1, Nat.le_trans hl h.low.2.1, Nat.le_trans hl h.low.2.2⟩, h.ne, h.len, h.u64, h.pcI, h.wok, h.fit⟩
theorem idx16 {regs : List Int} (hl : regs.length = 16) {k : Nat} {v : Int} (hv : regs[k]? = some v) (W : World) : (Instr.index 45 (.agg (regs.map (Value.int .u64)).toArray) (.int .i64 (k : Int))).run Try.prog W = .ok (.int .u64 v) W := by
  have hk : k < 16 := by have := (List.getElem?_eq_some_iff.1 hv).1; omega
  have hc : ((regs.map (Value.int .u64)).toArray)[k]? = some (.int .u64 v) := by simp [hv]
  obtain ⟨i0, hi0, hz0, hz1, hz2⟩ := info_parts infoU64r
  have ha : (isAgg 29).run Try.prog W = .ok false W := by
    unfold isAgg
    rw [Sem.run_bind, run_underlying Try.underlying29 W]
    rfl
  simp [Instr.index, run_underlying Try.underlying45, asIntOf, go_sem, part, ha, sizeOf, typeInfo, hi0, hz1, hv, hk]
theorem flatMap_get {α β : Type} {f : α → List β} {c : Nat} (hc : ∀ x, (f x).length = c) : ∀ (l : List α) (k : Nat) (x : α), l[k]? = some x → ∀ j, j < c → (l.flatMap f)[k * c + j]? = (f x)[j]?
  | [], k, x, h, j, hj => by simp at h
  | y :: l, 0, x, h, j, hj => by
    simp only [List.getElem?_cons_zero, Option.some.injEq] at h
    subst h
    rw [List.flatMap_cons, Nat.zero_mul, Nat.zero_add, List.getElem?_append_left (by rw [hc]; exact hj)]
  | y :: l, k + 1, x, h, j, hj => by
    rw [List.getElem?_cons_succ] at h
    rw [List.flatMap_cons, List.getElem?_append_right (by rw [hc, Nat.add_mul]; omega), hc, show (k + 1) * c + j - c = k * c + j by rw [Nat.add_mul]; omega]
    exact flatMap_get hc l k x h j hj
theorem mv_cells {w : World} {B n : Nat} {ad : Addr} {l : List MoveD} (h : Reads w B 4 (some ad) n (l.flatMap mvCells)) {k : Nat} {o : MoveD} (hk : l[k]? = some o) (hn : 0 < n) :
    w.cell? (ad.add (k * 4)) = some (.int .u64 o.base) ∧ w.cell? ⟨(ad.add (k * 4)).block, (ad.add (k * 4)).off + 1, none⟩ = some (.int .i64 o.size) ∧ w.cell? ⟨(ad.add (k * 4)).block, (ad.add (k * 4)).off + 2, none⟩ = some (.slice o.WA o.wn o.wc) ∧
      w.cell? ⟨(ad.add (k * 4)).block, (ad.add (k * 4)).off + 3, none⟩ = some (.slice o.RA o.rn o.rc) := by
  obtain ⟨ad', e, _, hc⟩ := h.2 hn
  injection e with e
  subst e
  have hg := fun j hj => flatMap_get (f := mvCells) (c := 4) (fun _ => rfl) l k o hk j hj
  refine ⟨hc _ _ (hg 0 (by omega)), ?_, ?_, ?_⟩
  · rw [addr_sub ad (k * 4) 1 (by omega)]; exact hc _ _ (hg 1 (by omega))
  · rw [addr_sub ad (k * 4) 2 (by omega)]; exact hc _ _ (hg 2 (by omega))
  · rw [addr_sub ad (k * 4) 3 (by omega)]; exact hc _ _ (hg 3 (by omega))
/-- zeros give way to words, one by one -/
theorem fill_set {l : List Int} {n k : Nat} {v : Int} (hl : l.length = n) (hv : l[k]? = some v) : (l.take k ++ List.replicate (n - k) 0).set k v = l.take (k + 1) ++ List.replicate (n - (k + 1)) 0 := by
  have hk : k < l.length := (List.getElem?_eq_some_iff.1 hv).1
  rw [List.set_append_right _ _ (by rw [List.length_take]; omega), List.length_take, show k - min k l.length = 0 by omega, show n - k = n - (k + 1) + 1 by omega, List.replicate_succ, List.set_cons_zero, List.take_add_one, hv]
  simp
theorem fill_regs {l r : List Int} {k : Nat} {v : Int} (hl : l.length = 16) (hr : r.length = 16) (hv : l[k]? = some v) : (l.take k ++ r.drop k).set k v = l.take (k + 1) ++ r.drop (k + 1) := by
  have hk : k < l.length := (List.getElem?_eq_some_iff.1 hv).1
  have hd : r.drop k = r[k]'(by omega) :: r.drop (k + 1) := List.drop_eq_getElem_cons (by omega)
  rw [List.set_append_right _ _ (by rw [List.length_take]; omega), List.length_take, show k - min k l.length = 0 by omega, hd, List.set_cons_zero, List.take_add_one, hv]
  simp
set_option maxRecDepth 100000 in
set_option maxHeartbeats 8000000 in
theorem walk_StackMoves (w : World) (base : Int) (A : Option Addr) (n c : Nat) (zs regs : List Int) (wb : U64 base) (r0 : Reads w w.heap.size 1 A n (zs.map (Value.int .u64))) (l0 : zs.length = n) (nc0 : n ≤ c) (cm0 : c ≤ 140737488351232) (wz : ∀ z ∈ zs, U64 z) (rl : regs.length = 16) (wr0 : ∀ z ∈ regs, U64 z)
    (A2 : Option Addr) (n2 c2 : Nat) (ms : List MoveD) (r2 : Reads w w.heap.size 4 A2 n2 (ms.flatMap mvCells)) (l2 : ms.length = n2) (nc2 : n2 ≤ c2) (u2 : n2 ≤ 140737488351232) (w2 : ∀ o ∈ ms, MoveIn w w.heap.size o) :
    Calls Try.prog 6 #[.agg (bfCells base A n c regs).toArray, .slice A2 n2 c2] w fun e w' => e = .returned (.bool true) ∧ Below w.heap.size w w' := by
  obtain ⟨X, hX⟩ : ∃ X, X = (bfCells base A n c regs).toArray := ⟨_, rfl⟩
  rw [← hX]
  have hP0 := Blk.new w 47 X
  have hb0 := (Below.refl w.heap.size w).alloc (Nat.le_refl _) (.cells X 47)
  obtain ⟨l, hl⟩ : ∃ l, l = zs.take 200 := ⟨_, rfl⟩
  obtain ⟨nl, hnl⟩ : ∃ nl, nl = min n 200 := ⟨_, rfl⟩
  have hmin : (if (200 : Int) < n then (200 : Int) else (n : Int)) = (nl : Int) := by split <;> omega
  have hnl1 : nl ≤ n := by omega
  have hnl2 : nl ≤ 200 := by omega
  have hll : l.length = nl := by rw [hl, List.length_take, l0]; omega
  have hlu : ∀ z ∈ l, U64 z := fun z hz => wz z (by rw [hl] at hz; exact List.mem_of_mem_take hz)
  have hlr : Reads w w.heap.size 1 A nl (l.map (Value.int .u64)) := by
    refine ⟨by rw [List.length_map, hll, Nat.mul_one], fun hn => ?_⟩
    obtain ⟨ad, e1, e2, e3⟩ := r0.2 (by omega)
    refine ⟨ad, e1, e2, fun j u hu => e3 j u ?_⟩
    rw [List.getElem?_map, hl, List.getElem?_take] at hu
    split at hu
    · rw [List.getElem?_map]; exact hu
    · cases hu
  have kp0 : (w.alloc (.cells X 47)).cell? ⟨w.heap.size, 0, none⟩ = some (.int .u64 base) := by rw [hP0.cell 0, hX]; rfl
  have kp1 : (w.alloc (.cells X 47)).cell? ⟨w.heap.size, 1, none⟩ = some (.slice A n c) := by rw [hP0.cell 1, hX]; rfl
  have HX := Lib.hid hX
  have HP0 := Lib.hid hP0
  have Hb0 := Lib.hid hb0
  have Hr0 := Lib.hid r0
  have Hl0 := Lib.hid l0
  have Hwz := Lib.hid wz
  have Hrl := Lib.hid rl
  have Hwr0 := Lib.hid wr0
  have Hr2 := Lib.hid r2
  have Hl2 := Lib.hid l2
  have Hw2 := Lib.hid w2
  have Hwb := Lib.hid wb
  have Hl := Lib.hid hl
  have Hnl := Lib.hid hnl
  have Hll := Lib.hid hll
  have Hlu := Lib.hid hlu
  have Hlr := Lib.hid hlr
  clear hlr hlu hll hnl hl wb w2 l2 r2 wr0 rl wz l0 r0 hb0 hP0 hX
  go_enter Try.func6, Try.ntmps6
  go_upto_region 1 with fail
  obtain ⟨G, hG⟩ : ∃ G, G = w.heap.size := ⟨_, rfl⟩
  obtain ⟨v0, hv0⟩ : ∃ v0, v0 = w.alloc (.cells X 47) := ⟨_, rfl⟩
  have hP := HP0.out
  have hb := Hb0.out
  rw [← hv0, ← hG] at hP kp0 kp1
  rw [← hv0] at hb
  rw [← hv0, ← hG]
  have hs0 : v0.heap.size = G + 1 := by rw [hv0, World.size_alloc, hG]
  have HG := Lib.hid hG
  have Hv0 := Lib.hid hv0
  have HP := Lib.hid hP
  have Hb := Lib.hid hb
  clear hb hP hv0 hG
  clear kp0 kp1
  go_wp2_with fail
  refine (first_any v0).mono ?_
  rintro e v1 ⟨rfl, hb1⟩
  have hP1 := HP.out.below hb1 (by omega)
  have hb01 := Hb.out.trans (hb1.mono (by have := HG.out; omega))
  have hs1 := hb1.size
  have kp0 : v1.cell? ⟨G, 0, none⟩ = some (.int .u64 base) := by rw [hP1.cell 0, HX.out]; rfl
  have kp1 : v1.cell? ⟨G, 1, none⟩ = some (.slice A n c) := by rw [hP1.cell 1, HX.out]; rfl
  have HP1 := Lib.hid hP1
  have Hb1 := Lib.hid hb1
  have Hb01 := Lib.hid hb01
  clear hb01 hb1 hP1
  have hwb0 := Hwb.out
  obtain ⟨hb00, hb11⟩ := hwb0
  have h8 : (8 : Int) * nl ≤ 1600 := by omega
  by_cases hmay : MayP base (8 * (nl : Int))
  · have Hmay := Lib.hid hmay
    clear hmay
    go_upto_region 4 with fail
    clear hmin
    go_wp2_with fail
    refine (rmay_yes _ base (8 * (nl : Int)) Hmay.out).mono ?_
    rintro e w6 ⟨rfl, rfl⟩
    go_wp2_with fail
    refine (new_in v1 base (8 * (nl : Int)) Hmay.out).mono ?_
    rintro e v2 ⟨p, sv, rfl, hC, hb2⟩
    rw [show (List.replicate (8 * (nl : Int) / 8).toNat (0 : Int)) = List.replicate nl 0 by congr 1; omega] at hC
    have hP2 := HP1.out.below hb2 (by omega)
    have hb02 := Hb01.out.trans (hb2.mono (by have := HG.out; omega))
    have hs2 := hb2.size
    clear kp0 kp1
    have kp0 : v2.cell? ⟨G, 0, none⟩ = some (.int .u64 base) := by rw [hP2.cell 0, HX.out]; rfl
    have HP2 := Lib.hid hP2
    have Hb2 := Lib.hid hb2
    have Hb02 := Lib.hid hb02
    have HC := Lib.hid hC
    clear hC hb02 hb2 hP2
    go_wp2_with fail
    refine (rnew_any v2 none 0 0 base (8 * (nl : Int)) Hmay.out).mono ?_
    rintro e v3 ⟨q, rg, wg, rfl, hR, hb3⟩
    rw [show (List.replicate (8 * (nl : Int) / 8).toNat (0 : Int)) = List.replicate nl 0 by congr 1; omega] at hR
    have hP3 := HP2.out.below hb3 (by omega)
    have hb03 := Hb02.out.trans (hb3.mono (by have := HG.out; omega))
    have hs3 := hb3.size
    obtain ⟨lo, hlo⟩ : ∃ lo, lo = G + 1 := ⟨_, rfl⟩
    have hD : Duo v3 lo p sv q rg wg (regs0 (base + 8 * nl)) base (l.take 0 ++ List.replicate (nl - 0) 0) (regs0 (base + 8 * nl)) base (l.take 0 ++ List.replicate (nl - 0) 0) := by
      rw [List.take_zero, Nat.sub_zero, List.nil_append]
      exact ⟨(HC.out.below hb3).lower (by omega), hR.lower (by omega)⟩
    have hwlo : w.heap.size ≤ lo := by have := HG.out; omega
    have hGlo : G < lo := by omega
    clear kp0
    have HP3 := Lib.hid hP3
    have Hb3 := Lib.hid hb3
    have Hb03 := Lib.hid hb03
    have HD := Lib.hid hD
    have HR := Lib.hid hR
    have Hlo := Lib.hid hlo
    clear hlo hR hD hb03 hb3 hP3
    go_wp2_with fail
    go_loopw [63] (fun i wq => ∃ k : Nat, k ≤ nl ∧ i = .int .i64 k ∧ Duo wq lo p sv q rg wg (regs0 (base + 8 * nl)) base (l.take k ++ List.replicate (nl - k) 0) (regs0 (base + 8 * nl)) base (l.take k ++ List.replicate (nl - k) 0) ∧ Below lo v0 wq) (fun i _ => nl - (intOf i).toNat)
    case atStart => exact ⟨0, by omega, rfl, HD.out, (Hb1.out.trans (Hb2.out.mono (by omega))).trans (Hb3.out.mono (by omega)) |>.mono (by have := Hlo.out; omega)⟩
    case round =>
      obtain ⟨k, hk, rfl, hDk, hbk⟩ := hrel
      have hPk := HP.out.below hbk hGlo
      have kp0 : wr.cell? ⟨G, 0, none⟩ = some (.int .u64 base) := by rw [hPk.cell 0, HX.out]; rfl
      have hbwk := Hb.out.trans (hbk.mono hwlo)
      by_cases hlt : k < nl
      · obtain ⟨ad, u0, hA, _, hu0, hce⟩ := (Hlr.out.below hbwk).at_ hlt
        subst hA
        obtain ⟨a, hak, rfl⟩ : ∃ a, l[k]? = some a ∧ u0 = .int .u64 a := by
          rw [List.getElem?_map, Option.map_eq_some_iff] at hu0
          obtain ⟨x, h1, h2⟩ := hu0
          exact ⟨x, h1, h2.symm⟩
        have hau := Hlu.out a (List.mem_of_getElem? hak)
        have hset := fill_set Hll.out hak
        obtain ⟨L, hL⟩ : ∃ L, l.take k ++ List.replicate (nl - k) 0 = L := ⟨_, rfl⟩
        obtain ⟨L', hL'⟩ : ∃ L', l.take (k + 1) ++ List.replicate (nl - (k + 1)) 0 = L' := ⟨_, rfl⟩
        rw [hL] at hDk hset
        rw [hL'] at hset
        have hLl : L.length = nl := by rw [← hL, List.length_append, List.length_take, List.length_replicate, Hll.out]; omega
        have hmayP := Hmay.out
        have hb9 : base ≤ 281474976710656 := hmayP.2.1
        have hkI : (k : Int) < nl := by omega
        clear hmayP hu0
        have HDk := Lib.hid hDk
        have Hbk := Lib.hid hbk
        have HPk := Lib.hid hPk
        have Hbwk := Lib.hid hbwk
        have Hak := Lib.hid hak
        have Hau := Lib.hid hau
        have Hset := Lib.hid hset
        have HL := Lib.hid hL
        have HL' := Lib.hid hL'
        have HLl := Lib.hid hLl
        clear hLl hL' hL hset hau hak hbwk hPk hbk hDk
        go_wp2_with fail
        refine (store_in HDk.out.chip k a (by rw [HLl.out]; exact hlt) Hau.out _ rfl).mono ?_
        rintro e w6 ⟨rfl, h6, hk6⟩
        rw [Hset.out] at h6
        obtain ⟨hD6, hb6⟩ := HDk.out.chipTo h6 (hk6.mono fun i _ hi => .inr hi)
        have hbb6 := Hbk.out.trans hb6
        have kw6 := hD6.ref.words_
        rw [HLl.out] at kw6
        obtain ⟨y0, hy0⟩ : ∃ y0, L[k]? = some y0 := ⟨_, List.getElem?_eq_getElem (by rw [HLl.out]; exact hlt)⟩
        have kx6 := hD6.ref.word hy0
        have fx6 := hD6.ref.wblk.frozen k
        have hR7 := hD6.ref.setWord (r := k) Hau.out
        rw [Hset.out] at hR7
        have hk7 := (Keeps.refl (RefS q rg wg) w6).setCell (p := ⟨wg, k, none⟩) (.inl (.inr (.inr rfl))) (.int .u64 a)
        obtain ⟨hD7, hb7⟩ := hD6.refTo hR7 hk7
        have hbb7 := hbb6.trans hb7
        have HD6 := Lib.hid hD6
        have Hbb6 := Lib.hid hbb6
        have HD7 := Lib.hid hD7
        have Hbb7 := Lib.hid hbb7
        have Hy0 := Lib.hid hy0
        clear hy0 hbb7 hD7 hbb6 hD6
        clear h6 hk6 hb6 hR7 hk7 hb7 kp0
        go_wp2_with fail
        refine ⟨⟨k + 1, by omega, by go_num, ?_, Hbb7.out⟩, by simp [intOf]; omega⟩
        rw [HL'.out]
        exact HD7.out
      · have hkn : k = nl := by omega
        have hDl : Duo wr lo p sv q rg wg (regs.take 0 ++ (regs0 (base + 8 * nl)).drop 0) base l (regs.take 0 ++ (regs0 (base + 8 * nl)).drop 0) base l := by
          have h1 := hDk
          rw [hkn, Nat.sub_self, List.replicate_zero, List.append_nil, List.take_of_length_le (by rw [Hll.out]; omega)] at h1
          exact h1
        have hrange : wr.rangeAt G 2 (regs.map (Value.int .u64)) := fun j v hv => by
          rw [hPk.cell (2 + j), HX.out, Nat.add_comm 2 j, List.getElem?_toArray, bfCells, List.getElem?_cons_succ, List.getElem?_cons_succ]
          exact hv
        obtain ⟨rt, hrt⟩ : ∃ rt, regs0 (base + 8 * (nl : Int)) = rt := ⟨_, rfl⟩
        have hrtl : rt.length = 16 := by rw [← hrt]; rfl
        rw [hrt] at hDl
        have hnk : ¬ (k : Int) < nl := by omega
        have HDl := Lib.hid hDl
        have Hbk := Lib.hid hbk
        have HPk := Lib.hid hPk
        have Hbwk := Lib.hid hbwk
        have Hkn := Lib.hid hkn
        have Hrt := Lib.hid hrt
        have Hrtl := Lib.hid hrtl
        have Hrange := Lib.hid hrange
        clear hrange hrtl hrt hkn hbwk hPk hbk hDl
        clear hDk
        go_upto_region 17 with (refine wpList_load_mid rfl 45 _ rfl G 2 rfl (regs.map (Value.int .u64)) _ Hrange.out Try.underlying45 rfl (by rw [List.length_map, Hrl.out]; kernel_rfl) ?_)
        obtain ⟨RV, hRV⟩ : ∃ RV, RV = Value.agg (regs.map (Value.int .u64)).toArray := ⟨_, rfl⟩
        rw [← hRV]
        have HRV := Lib.hid hRV
        clear hRV
        clear kp0
        go_loopw [87] (fun i wq => ∃ k : Nat, k ≤ 16 ∧ i = .int .i64 k ∧ Duo wq lo p sv q rg wg (regs.take k ++ rt.drop k) base l (regs.take k ++ rt.drop k) base l ∧ Below lo v0 wq) (fun i _ => 16 - (intOf i).toNat)
        case atStart => exact ⟨0, by omega, rfl, HDl.out, Hbk.out⟩
        case round =>
          obtain ⟨k2, hk2, rfl, hD2, hb2⟩ := hrel
          by_cases hlt2 : k2 < 16
          · obtain ⟨v, hv⟩ : ∃ v, regs[k2]? = some v := ⟨_, List.getElem?_eq_getElem (by rw [Hrl.out]; omega)⟩
            have hvu := Hwr0.out v (List.mem_of_getElem? hv)
            have hset := fill_regs Hrl.out Hrtl.out hv
            have hidx : ∀ W, (Instr.index 45 RV (.int .i64 (k2 : Int))).run Try.prog W = .ok (.int .u64 v) W := fun W => by rw [HRV.out]; exact idx16 Hrl.out hv W
            obtain ⟨L, hL⟩ : ∃ L, regs.take k2 ++ rt.drop k2 = L := ⟨_, rfl⟩
            obtain ⟨L', hL'⟩ : ∃ L', regs.take (k2 + 1) ++ rt.drop (k2 + 1) = L' := ⟨_, rfl⟩
            rw [hL] at hD2 hset
            rw [hL'] at hset
            have hLl : L.length = 16 := hD2.chip.len
            have hk16 : (k2 : Int) < 16 := by omega
            have HD2 := Lib.hid hD2
            have Hb2 := Lib.hid hb2
            have Hv := Lib.hid hv
            have Hvu := Lib.hid hvu
            have Hset := Lib.hid hset
            have HL := Lib.hid hL
            have HL' := Lib.hid hL'
            have HLl := Lib.hid hLl
            clear hLl hL' hL hset hvu hv hb2 hD2
            go_wp2_with fail
            refine (set_in HD2.out.chip k2 v hlt2 Hvu.out k2 rfl).mono ?_
            rintro e w6 ⟨rfl, h6, hk6⟩
            rw [Hset.out] at h6
            obtain ⟨hD6, hb6⟩ := HD2.out.chipTo h6 (hk6.mono fun i _ hi => .inl hi)
            have hbb6 := Hb2.out.trans hb6
            have kr6 := hD6.ref.regs_
            obtain ⟨y0, hy0⟩ : ∃ y0, L[k2]? = some y0 := ⟨_, List.getElem?_eq_getElem (by rw [HLl.out]; exact hlt2)⟩
            have kx6 := hD6.ref.reg hy0
            have fx6 := hD6.ref.rblk.frozen k2
            have hR7 := hD6.ref.setReg (r := k2) Hvu.out
            rw [Hset.out] at hR7
            have hk7 := (Keeps.refl (RefS q rg wg) w6).setCell (p := ⟨rg, k2, none⟩) (.inl (.inr (.inl rfl))) (.int .u64 v)
            obtain ⟨hD7, hb7⟩ := hD6.refTo hR7 hk7
            have hbb7 := hbb6.trans hb7
            have HD6 := Lib.hid hD6
            have Hbb6 := Lib.hid hbb6
            have HD7 := Lib.hid hD7
            have Hbb7 := Lib.hid hbb7
            have Hy0 := Lib.hid hy0
            clear hy0 hbb7 hD7 hbb6 hD6
            clear h6 hk6 hb6 hR7 hk7 hb7
            go_wp2_with fail
            refine ⟨⟨k2 + 1, by omega, by go_num, ?_, Hbb7.out⟩, by simp [intOf]; omega⟩
            rw [HL'.out]
            exact HD7.out
          · have hDm : Duo wr lo p sv q rg wg regs base l regs base l := by
              have h1 := hD2
              rw [List.take_of_length_le (by rw [Hrl.out]; omega), List.drop_of_length_le (by rw [Hrtl.out]; omega), List.append_nil] at h1
              exact h1
            have hk16 : ¬ (k2 : Int) < 16 := by omega
            have HDm := Lib.hid hDm
            have Hb2 := Lib.hid hb2
            clear hb2 hDm
            clear hD2
            go_wp2_with fail
            go_loopw [105] (fun i wq => ∃ j : Nat, j ≤ n2 ∧ i = .int .i64 j ∧ (∃ sv wg regs base ws, Duo wq lo p sv q rg wg regs base ws regs base ws) ∧ Below lo v0 wq) (fun i _ => n2 - (intOf i).toNat)
            case atStart => exact ⟨0, by omega, rfl, ⟨_, _, _, _, _, HDm.out⟩, Hb2.out⟩
            case round =>
              obtain ⟨j, hj, rfl, ⟨sv3, wg3, regs3, base3, ws3, hD3⟩, hb3⟩ := hrel
              have hbw3 := Hb.out.trans (hb3.mono hwlo)
              by_cases hjn : j < n2
              · obtain ⟨m, hm⟩ : ∃ m, ms[j]? = some m := ⟨_, List.getElem?_eq_getElem (by have := Hl2.out; omega)⟩
                obtain ⟨ad2, hA2, _, _⟩ := (Hr2.out.below hbw3).2 (by omega)
                subst hA2
                obtain ⟨c0', c1', c2', c3'⟩ := mv_cells (Hr2.out.below hbw3) hm (by omega)
                have hin := Hw2.out m (List.mem_of_getElem? hm)
                obtain ⟨mb, mz, WA, wn, wc', words, RA, rn, rc, rs⟩ := m
                simp only at c0' c1' c2' c3'
                have HD3 := Lib.hid hD3
                have Hb3 := Lib.hid hb3
                have Hbw3 := Lib.hid hbw3
                have Hm := Lib.hid hm
                have Hin := Lib.hid hin
                clear hin hm hbw3 hb3 hD3
                by_cases h6 : 6 ≤ j
                · have h6' : (6 : Int) ≤ j := by omega
                  have hfin := Hbw3.out.alloc Hbw3.out.size (.cells #[.int .u64 mb, .int .i64 mz, .slice WA wn wc', .slice RA rn rc] 56)
                  have Hfin := Lib.hid hfin
                  clear hfin
                  go_wp2_with fail
                  refine (used_nil _).mono ?_
                  rintro e w5 ⟨rfl, rfl⟩
                  go_wp2_with fail
                  refine (move_nil _ 8 8 _ _).mono ?_
                  rintro e w6 ⟨rfl, rfl⟩
                  go_wp2_with fail
                  go_ret
                  exact ⟨rfl, Hfin.out⟩
                · have h6' : ¬ (6 : Int) ≤ j := by omega
                  have hPY := Blk.new wr 56 #[.int .u64 mb, .int .i64 mz, .slice WA wn wc', .slice RA rn rc]
                  obtain ⟨Y, hY⟩ : ∃ Y, Y = wr.heap.size := ⟨_, rfl⟩
                  have hDa := HD3.out.below ((Below.refl wr.heap.size wr).alloc (Nat.le_refl _) (.cells #[.int .u64 mb, .int .i64 mz, .slice WA wn wc', .slice RA rn rc] 56))
                  have hba := Hb3.out.alloc (by have := HD3.out.chip.loLt; omega) (.cells #[.int .u64 mb, .int .i64 mz, .slice WA wn wc', .slice RA rn rc] 56)
                  obtain ⟨V, hV⟩ : ∃ V, V = wr.alloc (.cells #[.int .u64 mb, .int .i64 mz, .slice WA wn wc', .slice RA rn rc] 56) := ⟨_, rfl⟩
                  go_upto_region 26 with fail
                  rw [← hV, ← hY]
                  rw [← hV] at hPY hDa hba
                  rw [← hY] at hPY
                  have HY := Lib.hid hY
                  have HV := Lib.hid hV
                  have HPY := Lib.hid hPY
                  have HDa := Lib.hid hDa
                  have Hba := Lib.hid hba
                  clear hba hDa hPY hV hY
                  clear c0' c1' c2' c3'
                  obtain ⟨sp, hsp⟩ : ∃ sp, regs3.getD 14 0 = sp := ⟨_, rfl⟩
                  obtain ⟨nw, hnw⟩ : ∃ nw, ws3.length = nw := ⟨_, rfl⟩
                  have hspg := HDa.out.chip.sp
                  rw [hsp] at hspg
                  obtain ⟨hsp1, hspu⟩ := hspg
                  obtain ⟨fb1, fb2, fb3, fb4⟩ := HDa.out.chip.fit
                  rw [hnw] at fb4
                  have fsp0 := hspu.1
                  have fsp1 := hspu.2
                  have k14 := HDa.out.ref.reg hsp1
                  have kb := HDa.out.ref.base_
                  have kw := HDa.out.ref.words_
                  have kr := HDa.out.ref.regs_
                  rw [hnw] at kw
                  obtain ⟨E, hE⟩ : ∃ E, base3 + 8 * (nw : Int) = E := ⟨_, rfl⟩
                  have Hsp := Lib.hid hsp
                  have Hnw := Lib.hid hnw
                  have Hspu := Lib.hid hspu
                  have Hsp1 := Lib.hid hsp1
                  have Hfb3 := Lib.hid fb3
                  clear fb3 hsp1 hspu hnw hsp
                  obtain ⟨uv, okb, hcs, hus⟩ : ∃ uv okb, ((base3 ≤ sp ∧ sp ≤ E ∧ okb = true ∧ uv = E - sp) ∨ (¬ (base3 ≤ sp ∧ sp ≤ E) ∧ okb = false ∧ uv = 0)) ∧
                      Calls Try.prog 15 #[.pointer (some ⟨p, 0, none⟩)] V fun e w' => e = .returned (.tuple #[.int .i64 uv, .bool okb]) ∧ Below V.heap.size V w' := by
                    by_cases hu : usedP regs3 base3 ws3
                    · refine ⟨E - sp, true, .inl ⟨?_, ?_, rfl, rfl⟩, ?_⟩
                      · rw [← Hsp.out]; exact hu.1
                      · rw [← Hsp.out, ← hE, ← Hnw.out]; exact hu.2
                      · have h1 := used_in HDa.out.chip hu
                        rw [Hsp.out, Hnw.out, hE] at h1
                        exact h1
                    · refine ⟨0, false, .inr ⟨fun hh => hu ?_, rfl, rfl⟩, used_out HDa.out.chip hu⟩
                      unfold usedP
                      rw [Hsp.out, Hnw.out, hE]
                      exact hh
                  have huv : 0 ≤ uv ∧ uv ≤ 65536 := by omega
                  obtain ⟨huv0, huv1⟩ := huv
                  have Hcs := Lib.hid hcs
                  have Hus := Lib.hid hus
                  clear hus hcs
                  go_wp2_with fail
                  refine Hus.out.mono ?_
                  rintro e w5 ⟨rfl, hb5⟩
                  have hD5 := HDa.out.below hb5
                  have hb55 := Hba.out.trans (hb5.mono HDa.out.chip.loLt)
                  have hPY5 := HPY.out.below hb5 HPY.out.lt
                  clear k14 kb kw kr
                  have k14 := hD5.ref.reg Hsp1.out
                  have kb := hD5.ref.base_
                  have kw := hD5.ref.words_
                  have kr := hD5.ref.regs_
                  rw [Hnw.out] at kw
                  have HD5 := Lib.hid hD5
                  have Hb55 := Lib.hid hb55
                  have HPY5 := Lib.hid hPY5
                  clear hPY5 hb55 hD5
                  clear hb5
                  go_upto_region 27 with fail
                  go_quiet (fail)
                  obtain ⟨W5, hW5⟩ : ∃ W5, W5 = w5.drewN nq := ⟨_, rfl⟩
                  have hD6 := HD5.out.drewN nq
                  have hb6 := below_drewN Hb55.out nq
                  have hPY6 := HPY5.out.drewN nq
                  clear k14 kb kw kr
                  rw [← hW5] at hD6 hb6 hPY6 ⊢
                  have k14 := hD6.ref.reg Hsp1.out
                  have kb := hD6.ref.base_
                  have kw := hD6.ref.words_
                  have kr := hD6.ref.regs_
                  rw [Hnw.out] at kw
                  have HW5 := Lib.hid hW5
                  have HD6 := Lib.hid hD6
                  have Hb6 := Lib.hid hb6
                  have HPY6 := Lib.hid hPY6
                  clear hPY6 hb6 hD6 hW5
                  go_upto_region 28 with fail
                  go_cut [18] from 129 to 149 (fun t wx => t = .bool okb ∧ Duo wx lo p sv3 q rg wg3 regs3 base3 ws3 regs3 base3 ws3 ∧ Below lo v0 wx ∧ Blk wx Y 56 #[.int .u64 mb, .int .i64 mz, .slice WA wn wc', .slice RA rn rc])
                  case first =>
                    have hcs := Hcs.out
                    have hcase : (base3 ≤ sp ∧ sp ≤ E ∧ okb = true) ∨ (¬ base3 ≤ sp ∧ okb = false) ∨ (base3 ≤ sp ∧ ¬ sp ≤ E ∧ okb = false) := by
                      rcases hcs with ⟨h1, h2, h3, _⟩ | ⟨h1, h2, _⟩
                      · exact .inl ⟨h1, h2, h3⟩
                      · by_cases h3 : base3 ≤ sp
                        · exact .inr (.inr ⟨h3, fun h4 => h1 ⟨h3, h4⟩, h2⟩)
                        · exact .inr (.inl ⟨h3, h2⟩)
                    clear hcs
                    rcases hcase with ⟨c1, c2, c3⟩ | ⟨c1, c3⟩ | ⟨c1, c2, c3⟩
                    all_goals
                      have C3 := Lib.hid c3
                      clear c3
                      go_quiet (fail)
                      go_wp2_with fail
                      go_meet
                      exact ⟨by rw [C3.out], HD6.out.drewN _, below_drewN Hb6.out _, HPY6.out.drewN _⟩
                  case rest =>
                    obtain ⟨rfl, hD7, hb7, hPY7⟩ := hcut
                    clear k14 kb kw kr
                    have k14 := hD7.ref.reg Hsp1.out
                    have kr := hD7.ref.regs_
                    have HD7 := Lib.hid hD7
                    have Hb7 := Lib.hid hb7
                    have HPY7 := Lib.hid hPY7
                    clear hPY7 hb7 hD7
                    go_upto_region 29 with fail
                    go_cut [176] from 150 to 176 (fun t wx => t = .bool false ∧ wc = wx)
                    case first =>
                      have hcs := Hcs.out
                      cases okb
                      · have hu0 : (uv != 0) = false := by
                          rcases hcs with ⟨_, _, h3, _⟩ | ⟨_, _, h3⟩
                          · cases h3
                          · rw [h3]; rfl
                        clear hcs
                        go_wp2_with fail
                        go_meet
                        exact ⟨rfl, rfl⟩
                      · have hsE : sp ≤ E := by
                          rcases hcs with ⟨_, h2, _, _⟩ | ⟨_, h3, _⟩
                          · exact h2
                          · cases h3
                        have hEU : E - sp = uv := by
                          rcases hcs with ⟨_, _, _, h3⟩ | ⟨_, h3, _⟩
                          · exact h3.symm
                          · cases h3
                        clear hcs
                        go_wp2_with fail
                        go_meet
                        exact ⟨rfl, rfl⟩
                    case rest =>
                      obtain ⟨rfl, hwc⟩ := hcut
                      subst hwc
                      obtain ⟨rr, regs4, base4, ws4, hBM⟩ := both_move lo regs3 base3 ws3 ⟨mb, mz, WA, wn, wc', words, RA, rn, rc, rs⟩ Hfb3.out
                      have hbw7 := Hb.out.trans (Hb7.out.mono hwlo)
                      have hMI := (Hin.out.below hbw7).more hwlo
                      have hloc := HD7.out.chip.loLt
                      clear k14 kr
                      have ky0 := Blk.cell HPY7.out 0
                      have ky1 := Blk.cell HPY7.out 1
                      have ky2 := Blk.cell HPY7.out 2
                      have ky3 := Blk.cell HPY7.out 3
                      simp only [List.getElem?_toArray, List.getElem?_cons_zero, List.getElem?_cons_succ] at ky0 ky1 ky2 ky3
                      have HBM := Lib.hid hBM
                      have HMI := Lib.hid hMI
                      have Hbw7 := Lib.hid hbw7
                      clear hbw7 hMI hBM
                      go_upto_region 31 with fail
                      refine wp_region_noPanic ?_
                      refine wp_region_held_drew (S := fun W => W.cell? ⟨Y, 0, none⟩ = some (.int .u64 mb) ∧ W.cell? ⟨Y, 1, none⟩ = some (.int .i64 mz) ∧ W.cell? ⟨Y, 2, none⟩ = some (.slice WA wn wc') ∧ W.cell? ⟨Y, 3, none⟩ = some (.slice RA rn rc)) (by kernel_rfl) ⟨ky0, ky1, ky2, ky3⟩ (fun hHeld => ?_)
                      refine wpAnyH_take (i := 0) (v := ?_) rfl (by kernel_rfl) (by kernel_rfl) (by kernel_rfl) (fun _ _ _ h => h) (Or.inl ⟨by rfl, ?_⟩) (by assumption) ?_
                      rotate_left
                      · intro w hSw; (try dsimp only at hSw); go_simp; try with_reducible rfl
                      simp only [Act.put, List.getElem_toArray, List.getElem_cons_zero, List.getElem_cons_succ, List.setIfInBounds_toArray, List.set_cons_zero, List.set_cons_succ]
                      refine wpAnyH_take (i := 1) (v := ?_) rfl (by kernel_rfl) (by kernel_rfl) (by kernel_rfl) (fun _ _ _ h => h) (Or.inl ⟨by rfl, ?_⟩) (by assumption) ?_
                      rotate_left
                      · intro w hSw; (try dsimp only at hSw); go_simp; try with_reducible rfl
                      simp only [Act.put, List.getElem_toArray, List.getElem_cons_zero, List.getElem_cons_succ, List.setIfInBounds_toArray, List.set_cons_zero, List.set_cons_succ]
                      refine wpAnyH_take (i := 2) (v := ?_) rfl (by kernel_rfl) (by kernel_rfl) (by kernel_rfl) (fun _ _ _ h => h) (Or.inl ⟨by rfl, ?_⟩) (by assumption) ?_
                      rotate_left
                      · intro w hSw; (try dsimp only at hSw); go_simp; try with_reducible rfl
                      simp only [Act.put, List.getElem_toArray, List.getElem_cons_zero, List.getElem_cons_succ, List.setIfInBounds_toArray, List.set_cons_zero, List.set_cons_succ]
                      refine wpAnyH_take (i := 3) (v := ?_) rfl (by kernel_rfl) (by kernel_rfl) (by kernel_rfl) (fun _ _ _ h => h) (Or.inl ⟨by rfl, ?_⟩) (by assumption) ?_
                      rotate_left
                      · intro w hSw; (try dsimp only at hSw); go_simp; try with_reducible rfl
                      simp only [Act.put, List.getElem_toArray, List.getElem_cons_zero, List.getElem_cons_succ, List.setIfInBounds_toArray, List.set_cons_zero, List.set_cons_succ]
                      refine wpAnyH_take (i := 4) (v := ?_) rfl (by kernel_rfl) (by kernel_rfl) (by kernel_rfl) (fun _ _ _ h => h) (Or.inl ⟨by rfl, ?_⟩) (by assumption) ?_
                      rotate_left
                      · intro w hSw; (try dsimp only at hSw); go_simp; try with_reducible rfl
                      simp only [Act.put, List.getElem_toArray, List.getElem_cons_zero, List.getElem_cons_succ, List.setIfInBounds_toArray, List.set_cons_zero, List.set_cons_succ]
                      refine wpAnyH_take (i := 5) (v := ?_) rfl (by kernel_rfl) (by kernel_rfl) (by kernel_rfl) (fun _ _ _ h => h) (Or.inl ⟨by rfl, ?_⟩) (by assumption) ?_
                      rotate_left
                      · intro w hSw; (try dsimp only at hSw); go_simp; try with_reducible rfl
                      simp only [Act.put, List.getElem_toArray, List.getElem_cons_zero, List.getElem_cons_succ, List.setIfInBounds_toArray, List.set_cons_zero, List.set_cons_succ]
                      refine wpAnyH_take (i := 6) (v := ?_) rfl (by kernel_rfl) (by kernel_rfl) (by kernel_rfl) (fun _ _ _ h => h) (Or.inl ⟨by rfl, ?_⟩) (by assumption) ?_
                      rotate_left
                      · intro w hSw; (try dsimp only at hSw); go_simp; try with_reducible rfl
                      simp only [Act.put, List.getElem_toArray, List.getElem_cons_zero, List.getElem_cons_succ, List.setIfInBounds_toArray, List.set_cons_zero, List.set_cons_succ]
                      refine wpAnyH_take (i := 7) (v := ?_) rfl (by kernel_rfl) (by kernel_rfl) (by kernel_rfl) (fun _ _ _ h => h) (Or.inl ⟨by rfl, ?_⟩) (by assumption) ?_
                      rotate_left
                      · intro w hSw; (try dsimp only at hSw); go_simp; try with_reducible rfl
                      simp only [Act.put, List.getElem_toArray, List.getElem_cons_zero, List.getElem_cons_succ, List.setIfInBounds_toArray, List.set_cons_zero, List.set_cons_succ]
                      refine wpAnyH_take (i := 8) (v := ?_) rfl (by kernel_rfl) (by kernel_rfl) (by kernel_rfl) (fun _ _ _ h => h) (Or.inl ⟨by rfl, ?_⟩) (by assumption) ?_
                      rotate_left
                      · intro w hSw; (try dsimp only at hSw); go_simp; try with_reducible rfl
                      simp only [Act.put, List.getElem_toArray, List.getElem_cons_zero, List.getElem_cons_succ, List.setIfInBounds_toArray, List.set_cons_zero, List.set_cons_succ]
                      refine wpAnyH_take (i := 10) (v := ?_) rfl (by kernel_rfl) (by kernel_rfl) (by kernel_rfl) (fun _ _ _ h => h) (Or.inl ⟨by rfl, ?_⟩) (by assumption) ?_
                      rotate_left
                      · intro w hSw; (try dsimp only at hSw); go_simp; try with_reducible rfl
                      simp only [Act.put, List.getElem_toArray, List.getElem_cons_zero, List.getElem_cons_succ, List.setIfInBounds_toArray, List.set_cons_zero, List.set_cons_succ]
                      refine wpAnyH_take (i := 11) (v := ?_) rfl (by kernel_rfl) (by kernel_rfl) (by kernel_rfl) (fun _ _ _ h => h) (Or.inl ⟨by rfl, ?_⟩) (by assumption) ?_
                      rotate_left
                      · intro w hSw; (try dsimp only at hSw); go_simp; try with_reducible rfl
                      simp only [Act.put, List.getElem_toArray, List.getElem_cons_zero, List.getElem_cons_succ, List.setIfInBounds_toArray, List.set_cons_zero, List.set_cons_succ]
                      refine wpAnyH_take (i := 12) (v := ?_) rfl (by kernel_rfl) (by kernel_rfl) (by kernel_rfl) (fun _ _ _ h => h) (Or.inl ⟨by rfl, ?_⟩) (by assumption) ?_
                      rotate_left
                      · intro w hSw; (try dsimp only at hSw); go_simp; try with_reducible rfl
                      simp only [Act.put, List.getElem_toArray, List.getElem_cons_zero, List.getElem_cons_succ, List.setIfInBounds_toArray, List.set_cons_zero, List.set_cons_succ]
                      refine wpAnyH_take (i := 13) (v := ?_) rfl (by kernel_rfl) (by kernel_rfl) (by kernel_rfl) (fun _ _ _ h => h) (Or.inl ⟨by rfl, ?_⟩) (by assumption) ?_
                      rotate_left
                      · intro w hSw; (try dsimp only at hSw); go_simp; try with_reducible rfl
                      simp only [Act.put, List.getElem_toArray, List.getElem_cons_zero, List.getElem_cons_succ, List.setIfInBounds_toArray, List.set_cons_zero, List.set_cons_succ]
                      refine wpAnyH_take (i := 14) (v := ?_) rfl (by kernel_rfl) (by kernel_rfl) (by kernel_rfl) (fun _ _ _ h => h) (Or.inl ⟨by rfl, ?_⟩) (by assumption) ?_
                      rotate_left
                      · intro w hSw; (try dsimp only at hSw); go_simp; try with_reducible rfl
                      simp only [Act.put, List.getElem_toArray, List.getElem_cons_zero, List.getElem_cons_succ, List.setIfInBounds_toArray, List.set_cons_zero, List.set_cons_succ]
                      refine wpAnyH_take (i := 15) (v := ?_) rfl (by kernel_rfl) (by kernel_rfl) (by kernel_rfl) (fun _ _ _ h => h) (Or.inl ⟨by rfl, ?_⟩) (by assumption) ?_
                      rotate_left
                      · intro w hSw; (try dsimp only at hSw); go_simp; try with_reducible rfl
                      simp only [Act.put, List.getElem_toArray, List.getElem_cons_zero, List.getElem_cons_succ, List.setIfInBounds_toArray, List.set_cons_zero, List.set_cons_succ]
                      refine wpAnyH_take (i := 16) (v := ?_) rfl (by kernel_rfl) (by kernel_rfl) (by kernel_rfl) (fun _ _ _ h => h) (Or.inl ⟨by rfl, ?_⟩) (by assumption) ?_
                      rotate_left
                      · intro w hSw; (try dsimp only at hSw); go_simp; try with_reducible rfl
                      simp only [Act.put, List.getElem_toArray, List.getElem_cons_zero, List.getElem_cons_succ, List.setIfInBounds_toArray, List.set_cons_zero, List.set_cons_succ]
                      refine wpAnyH_take (i := 17) (v := ?_) rfl (by kernel_rfl) (by kernel_rfl) (by kernel_rfl) (fun _ _ _ h => h) (Or.inl ⟨by rfl, ?_⟩) (by assumption) ?_
                      rotate_left
                      · intro w hSw; (try dsimp only at hSw); go_simp; try with_reducible rfl
                      simp only [Act.put, List.getElem_toArray, List.getElem_cons_zero, List.getElem_cons_succ, List.setIfInBounds_toArray, List.set_cons_zero, List.set_cons_succ]
                      refine wpAnyH_take (i := 18) (v := ?_) rfl (by kernel_rfl) (by kernel_rfl) (by kernel_rfl) (fun _ _ _ h => h) (Or.inl ⟨by rfl, ?_⟩) (by assumption) ?_
                      rotate_left
                      · intro w hSw; (try dsimp only at hSw); go_simp; try with_reducible rfl
                      simp only [Act.put, List.getElem_toArray, List.getElem_cons_zero, List.getElem_cons_succ, List.setIfInBounds_toArray, List.set_cons_zero, List.set_cons_succ]
                      refine wpAnyH_ready (rs := [9]) (by kernel_rfl) (by simp) ?_
                      refine AllReadyH.cons rfl (fun K hK => ?_) AllReadyH.nil
                      go_simp
                      refine (HBM.out.1 (HD7.out.drewN 1).chip (HMI.out.below (below_drewN (Below.refl _ wc) 1))).mono ?_
                      rintro e w8 ⟨sv4, rfl, hC8, hk8⟩
                      have hD7d := HD7.out.drewN 1
                      obtain ⟨hD8, hb8⟩ := hD7d.chipTo hC8 hk8
                      have hPYd := HPY7.out.drewN 1
                      have hPY8 := hk8.blk hPYd (by
                        rintro (e | e)
                        · exact hPYd.ne_ hD7d.chip.blk (by decide) e
                        · exact own_blk_ne hD7d.chip.row hPYd (by decide) e)
                      clear ky0 ky1 ky2 ky3
                      have ky0 := Blk.cell hPY8 0
                      have ky1 := Blk.cell hPY8 1
                      have ky2 := Blk.cell hPY8 2
                      have ky3 := Blk.cell hPY8 3
                      simp only [List.getElem?_toArray, List.getElem?_cons_zero, List.getElem?_cons_succ] at ky0 ky1 ky2 ky3
                      refine hK.out _ _ ⟨ky0, ky1, ky2, ky3⟩ (fun hHeld2 => ?_)
                      clear hK K hHeld
                      try simp only [Act.put, List.getElem_toArray, List.getElem_cons_zero, List.getElem_cons_succ, List.setIfInBounds_toArray, List.set_cons_zero, List.set_cons_succ]
                      refine wpAnyH_ready (rs := [19]) (by kernel_rfl) (by simp) ?_
                      refine AllReadyH.cons rfl (fun K hK => ?_) AllReadyH.nil
                      go_simp
                      refine (HBM.out.2 hD8.ref ((HMI.out.below (below_drewN (Below.refl _ wc) 1)).below hb8)).mono ?_
                      rintro e w9 ⟨wg4, rfl, hR9, hk9⟩
                      obtain ⟨hD9, hb9⟩ := hD8.refTo hR9 hk9
                      have hPY9 := hk9.blk hPY8 (by
                        rintro (e | e | e)
                        · exact hPY8.ne_ hD8.ref.blk (by decide) e
                        · exact hPY8.ne_ hD8.ref.rblk (by decide) e
                        · exact hPY8.ne_ hD8.ref.wblk (by decide) e)
                      clear ky0 ky1 ky2 ky3
                      have ky0 := Blk.cell hPY9 0
                      have ky1 := Blk.cell hPY9 1
                      have ky2 := Blk.cell hPY9 2
                      have ky3 := Blk.cell hPY9 3
                      simp only [List.getElem?_toArray, List.getElem?_cons_zero, List.getElem?_cons_succ] at ky0 ky1 ky2 ky3
                      refine hK.out _ _ ⟨ky0, ky1, ky2, ky3⟩ (fun hHeld3 => ?_)
                      clear hK K hHeld2
                      try simp only [Act.put, List.getElem_toArray, List.getElem_cons_zero, List.getElem_cons_succ, List.setIfInBounds_toArray, List.set_cons_zero, List.set_cons_succ]
                      refine wpAnyH_take (i := 20) (v := ?_) rfl (by kernel_rfl) (by kernel_rfl) (by kernel_rfl) (fun _ _ _ h => h) (Or.inl ⟨by rfl, ?_⟩) (by assumption) ?_
                      rotate_left
                      · intro w hSw; (try dsimp only at hSw); go_simp; try with_reducible rfl
                      simp only [Act.put, List.getElem_toArray, List.getElem_cons_zero, List.getElem_cons_succ, List.setIfInBounds_toArray, List.set_cons_zero, List.set_cons_succ]
                      refine wpAnyH_done (by kernel_rfl) ?_ _
                      refine NoPanic.normal ?_
                      have hbb9 : Below lo v0 w9 := (below_drewN Hb7.out 1).trans (hb8.trans hb9)
                      have HD9 := Lib.hid hD9
                      have Hbb9 := Lib.hid hbb9
                      clear hbb9 hD9
                      clear ky0 ky1 ky2 ky3 hHeld3 hPY9 hPY8 hPYd hD8 hD7d hR9 hk9 hC8 hk8 hb8 hb9
                      go_wp2_with fail
                      refine (stack_in HD9.out.chip).mono ?_
                      rintro e w10 ⟨tv, rfl, hown, hb10⟩
                      have hE10 := HD9.out.below hb10
                      have hbb10 := Hbb9.out.trans (hb10.mono HD9.out.chip.loLt)
                      have k3 := hE10.ref.base_
                      have HE10 := Lib.hid hE10
                      have Hbb10 := Lib.hid hbb10
                      have Hown := Lib.hid hown
                      clear hown hbb10 hE10
                      clear hb10
                      go_upto_region 34 with fail
                      refine wp_region_noPanic ?_
                      refine wp_region_held_drew (S := fun W => W.cell? ⟨q, 3, none⟩ = some (.int .u64 base4) ∧ (convert 33 9 tv).run Try.prog W = .ok (.string (strOfNums (flat ws4))) W) (by kernel_rfl) ⟨k3, conv_ownS (show w10.drew.ownsRow _ _ _ _ _ _ from Hown.out)⟩ (fun hHeld => ?_)
                      refine wpAnyH_take (i := 0) (v := ?_) rfl (by kernel_rfl) (by kernel_rfl) (by kernel_rfl) (fun _ _ _ h => h) (Or.inl ⟨by rfl, ?_⟩) (by assumption) ?_
                      rotate_left
                      · intro w hSw; (try dsimp only at hSw); go_simp; try with_reducible rfl
                      simp only [Act.put, List.getElem_toArray, List.getElem_cons_zero, List.getElem_cons_succ, List.setIfInBounds_toArray, List.set_cons_zero, List.set_cons_succ]
                      refine wpAnyH_take (i := 1) (v := ?_) rfl (by kernel_rfl) (by kernel_rfl) (by kernel_rfl) (fun _ _ _ h => h) (Or.inl ⟨by rfl, ?_⟩) (by assumption) ?_
                      rotate_left
                      · intro w hSw; (try dsimp only at hSw); go_simp; try with_reducible rfl
                      simp only [Act.put, List.getElem_toArray, List.getElem_cons_zero, List.getElem_cons_succ, List.setIfInBounds_toArray, List.set_cons_zero, List.set_cons_succ]
                      refine wpAnyH_take (i := 2) (v := ?_) rfl (by kernel_rfl) (by kernel_rfl) (by kernel_rfl) (fun _ _ _ h => h) (Or.inl ⟨by rfl, ?_⟩) (by assumption) ?_
                      rotate_left
                      · intro w hSw; (try dsimp only at hSw); go_simp; try with_reducible rfl
                      simp only [Act.put, List.getElem_toArray, List.getElem_cons_zero, List.getElem_cons_succ, List.setIfInBounds_toArray, List.set_cons_zero, List.set_cons_succ]
                      refine wpAnyH_take (i := 3) (v := ?_) rfl (by kernel_rfl) (by kernel_rfl) (by kernel_rfl) (fun _ _ _ h => h) (Or.inl ⟨by rfl, ?_⟩) (by assumption) ?_
                      rotate_left
                      · intro w hSw; (try dsimp only at hSw); go_simp; try with_reducible rfl
                      simp only [Act.put, List.getElem_toArray, List.getElem_cons_zero, List.getElem_cons_succ, List.setIfInBounds_toArray, List.set_cons_zero, List.set_cons_succ]
                      refine wpAnyH_take (i := 4) (v := ?_) rfl (by kernel_rfl) (by kernel_rfl) (by kernel_rfl) (fun _ _ _ h => h) (Or.inl ⟨by rfl, ?_⟩) (by assumption) ?_
                      rotate_left
                      · intro w hSw; (try dsimp only at hSw); go_simp; try with_reducible rfl
                      simp only [Act.put, List.getElem_toArray, List.getElem_cons_zero, List.getElem_cons_succ, List.setIfInBounds_toArray, List.set_cons_zero, List.set_cons_succ]
                      refine wpAnyH_take (i := 5) (v := ?_) rfl (by kernel_rfl) (by kernel_rfl) (by kernel_rfl) (fun _ _ _ h => h) (Or.inl ⟨by rfl, ?_⟩) (by assumption) ?_
                      rotate_left
                      · intro w hSw; (try dsimp only at hSw); go_simp; try with_reducible rfl
                      simp only [Act.put, List.getElem_toArray, List.getElem_cons_zero, List.getElem_cons_succ, List.setIfInBounds_toArray, List.set_cons_zero, List.set_cons_succ]
                      refine wpAnyH_take (i := 6) (v := ?_) rfl (by kernel_rfl) (by kernel_rfl) (by kernel_rfl) (fun _ _ _ h => h) (Or.inl ⟨by rfl, ?_⟩) (by assumption) ?_
                      rotate_left
                      · intro w hSw; (try dsimp only at hSw); go_simp; try with_reducible rfl
                      simp only [Act.put, List.getElem_toArray, List.getElem_cons_zero, List.getElem_cons_succ, List.setIfInBounds_toArray, List.set_cons_zero, List.set_cons_succ]
                      refine wpAnyH_take (i := 7) (v := ?_) rfl (by kernel_rfl) (by kernel_rfl) (by kernel_rfl) (fun _ _ _ h => h) (Or.inl ⟨by rfl, ?_⟩) (by assumption) ?_
                      rotate_left
                      · intro w hSw; (try dsimp only at hSw); go_simp; try with_reducible rfl
                      simp only [Act.put, List.getElem_toArray, List.getElem_cons_zero, List.getElem_cons_succ, List.setIfInBounds_toArray, List.set_cons_zero, List.set_cons_succ]
                      refine wpAnyH_take (i := 8) (v := ?_) rfl (by kernel_rfl) (by kernel_rfl) (by kernel_rfl) (fun _ _ _ h => h) (Or.inl ⟨by rfl, ?_⟩) (by assumption) ?_
                      rotate_left
                      · intro w hSw; (try dsimp only at hSw); go_simp; try with_reducible rfl
                      simp only [Act.put, List.getElem_toArray, List.getElem_cons_zero, List.getElem_cons_succ, List.setIfInBounds_toArray, List.set_cons_zero, List.set_cons_succ]
                      refine wpAnyH_take (i := 9) (v := ?_) rfl (by kernel_rfl) (by kernel_rfl) (by kernel_rfl) (fun _ _ _ h => h) (Or.inl ⟨by rfl, ?_⟩) (by assumption) ?_
                      rotate_left
                      · intro w hSw; (try dsimp only at hSw); go_simp; try with_reducible rfl
                      simp only [Act.put, List.getElem_toArray, List.getElem_cons_zero, List.getElem_cons_succ, List.setIfInBounds_toArray, List.set_cons_zero, List.set_cons_succ]
                      refine wpAnyH_ready (rs := [10]) (by kernel_rfl) (by simp) ?_
                      refine AllReadyH.cons rfl (fun K hK => ?_) AllReadyH.nil
                      go_simp
                      have hF := HE10.out.drewN 1
                      refine (rflat_any hF.ref).mono ?_
                      rintro e w11 ⟨fv, rfl, hown11, hb11⟩
                      have hF11 := hF.below hb11
                      have kk3 := hF11.ref.base_
                      have hcv5 := conv_ownS hown11
                      have hcvt := conv_ownS (own_kept' (show w10.drew.ownsRow _ _ _ _ _ _ from Hown.out) (only_of_below hb11 none) nofun)
                      refine hK.out _ _ ⟨kk3, hcvt⟩ (fun hHeld3 => ?_)
                      clear hK K hHeld
                      try simp only [Act.put, List.getElem_toArray, List.getElem_cons_zero, List.getElem_cons_succ, List.setIfInBounds_toArray, List.set_cons_zero, List.set_cons_succ]
                      refine wpAnyH_strong (S' := fun W => (W.cell? ⟨q, 3, none⟩ = some (.int .u64 base4) ∧ (convert 33 9 tv).run Try.prog W = .ok (.string (strOfNums (flat ws4))) W) ∧ (convert 33 9 fv).run Try.prog W = .ok (.string (strOfNums (flat ws4))) W) (fun W h => h.1) _ _ _ _ ?_
                      have hHeld4 := And.intro hHeld3 hcv5
                      clear hHeld3
                      refine wpAnyH_take (i := 11) (v := ?_) rfl (by kernel_rfl) (by kernel_rfl) (by kernel_rfl) (fun _ _ _ h => h) (Or.inl ⟨by rfl, ?_⟩) (by assumption) ?_
                      rotate_left
                      · intro w hSw; (try dsimp only at hSw); go_simp; try with_reducible rfl
                      simp only [Act.put, List.getElem_toArray, List.getElem_cons_zero, List.getElem_cons_succ, List.setIfInBounds_toArray, List.set_cons_zero, List.set_cons_succ]
                      refine wpAnyH_take (i := 12) (v := ?_) rfl (by kernel_rfl) (by kernel_rfl) (by kernel_rfl) (fun _ _ _ h => h) (Or.inl ⟨by rfl, ?_⟩) (by assumption) ?_
                      rotate_left
                      · intro w hSw; (try dsimp only at hSw); go_simp; try with_reducible rfl
                      simp only [Act.put, List.getElem_toArray, List.getElem_cons_zero, List.getElem_cons_succ, List.setIfInBounds_toArray, List.set_cons_zero, List.set_cons_succ]
                      refine wpAnyH_take (i := 13) (v := ?_) rfl (by kernel_rfl) (by kernel_rfl) (by kernel_rfl) (fun _ _ _ h => h) (Or.inl ⟨by rfl, ?_⟩) (by assumption) ?_
                      rotate_left
                      · intro w hSw; (try dsimp only at hSw); go_simp; try with_reducible rfl
                      simp only [Act.put, List.getElem_toArray, List.getElem_cons_zero, List.getElem_cons_succ, List.setIfInBounds_toArray, List.set_cons_zero, List.set_cons_succ]
                      refine wpAnyH_take (i := 14) (v := ?_) rfl (by kernel_rfl) (by kernel_rfl) (by kernel_rfl) (fun _ _ _ h => h) (Or.inl ⟨by rfl, ?_⟩) (by assumption) ?_
                      rotate_left
                      · intro w hSw; (try dsimp only at hSw); go_simp; try with_reducible rfl
                      simp only [Act.put, List.getElem_toArray, List.getElem_cons_zero, List.getElem_cons_succ, List.setIfInBounds_toArray, List.set_cons_zero, List.set_cons_succ]
                      refine wpAnyH_take (i := 15) (v := ?_) rfl (by kernel_rfl) (by kernel_rfl) (by kernel_rfl) (fun _ _ _ h => h) (Or.inl ⟨by rfl, ?_⟩) (by assumption) ?_
                      rotate_left
                      · intro w hSw; (try dsimp only at hSw); go_simp; try with_reducible rfl
                      simp only [Act.put, List.getElem_toArray, List.getElem_cons_zero, List.getElem_cons_succ, List.setIfInBounds_toArray, List.set_cons_zero, List.set_cons_succ]
                      refine wpAnyH_ready (rs := [16]) (by kernel_rfl) (by simp) ?_
                      refine AllReadyH.cons rfl (fun K hK => ?_) AllReadyH.nil
                      go_simp
                      refine (pc_in hF11.chip).mono ?_
                      rintro e w12 ⟨rfl, rfl⟩
                      refine hK.out _ _ hHeld4 (fun hHeld5 => ?_)
                      clear hK K hHeld4
                      try simp only [Act.put, List.getElem_toArray, List.getElem_cons_zero, List.getElem_cons_succ, List.setIfInBounds_toArray, List.set_cons_zero, List.set_cons_succ]
                      refine wpAnyH_take (i := 17) (v := ?_) rfl (by kernel_rfl) (by kernel_rfl) (by kernel_rfl) (fun _ _ _ h => h) (Or.inl ⟨by rfl, ?_⟩) (by assumption) ?_
                      rotate_left
                      · intro w hSw; (try dsimp only at hSw); go_simp; try with_reducible rfl
                      simp only [Act.put, List.getElem_toArray, List.getElem_cons_zero, List.getElem_cons_succ, List.setIfInBounds_toArray, List.set_cons_zero, List.set_cons_succ]
                      refine wpAnyH_take (i := 18) (v := ?_) rfl (by kernel_rfl) (by kernel_rfl) (by kernel_rfl) (fun _ _ _ h => h) (Or.inl ⟨by rfl, ?_⟩) (by assumption) ?_
                      rotate_left
                      · intro w hSw; (try dsimp only at hSw); go_simp; try with_reducible rfl
                      simp only [Act.put, List.getElem_toArray, List.getElem_cons_zero, List.getElem_cons_succ, List.setIfInBounds_toArray, List.set_cons_zero, List.set_cons_succ]
                      refine wpAnyH_done (by kernel_rfl) ?_ _
                      refine NoPanic.normal ?_
                      have hbb11 : Below lo v0 w11 := (below_drewN Hbb10.out 1).trans (hb11.mono hF.chip.loLt)
                      have HF11 := Lib.hid hF11
                      have Hbb11 := Lib.hid hbb11
                      clear hbb11 hF11
                      clear hHeld5 hcv5 hcvt kk3 hF hown11 hb11
                      go_upto_region 36 with fail
                      have kr11 := HF11.out.ref.regs_
                      go_wp2_with fail
                      clear kr11
                      go_loopw [227] (fun i wq => ∃ k : Nat, k ≤ 16 ∧ i = .int .i64 k ∧ Duo wq lo p sv4 q rg wg4 regs4 base4 ws4 regs4 base4 ws4 ∧ Below lo v0 wq) (fun i _ => 16 - (intOf i).toNat)
                      case atStart => exact ⟨0, by omega, rfl, HF11.out, Hbb11.out⟩
                      case round =>
                        obtain ⟨k4, hk4, rfl, hD12, hb12⟩ := hrel
                        by_cases hlt4 : k4 < 16
                        · obtain ⟨v, hv⟩ : ∃ v, regs4[k4]? = some v := ⟨_, List.getElem?_eq_getElem (by have := hD12.chip.len; omega)⟩
                          have kr := hD12.ref.regs_
                          have kv := hD12.ref.reg hv
                          have hk16 : (k4 : Int) < 16 := by omega
                          have HD12 := Lib.hid hD12
                          have Hv := Lib.hid hv
                          have Hb12 := Lib.hid hb12
                          clear hb12 hv hD12
                          go_upto_region 39 with fail
                          refine wp_region_noPanic ?_
                          refine wp_region_held_drew (S := fun W => W.cell? ⟨q, 1, none⟩ = some (.slice (some ⟨rg, 0, none⟩) 16 16) ∧ W.cell? ⟨rg, k4, none⟩ = some (.int .u64 v)) (by kernel_rfl) ⟨kr, kv⟩ (fun hHeld => ?_)
                          refine wpAnyH_take (i := 0) (v := ?_) rfl (by kernel_rfl) (by kernel_rfl) (by kernel_rfl) (fun _ _ _ h => h) (Or.inl ⟨by rfl, ?_⟩) (by assumption) ?_
                          rotate_left
                          · intro w hSw; (try dsimp only at hSw); go_simp; try with_reducible rfl
                          simp only [Act.put, List.getElem_toArray, List.getElem_cons_zero, List.getElem_cons_succ, List.setIfInBounds_toArray, List.set_cons_zero, List.set_cons_succ]
                          refine wpAnyH_take (i := 1) (v := ?_) rfl (by kernel_rfl) (by kernel_rfl) (by kernel_rfl) (fun _ _ _ h => h) (Or.inl ⟨by rfl, ?_⟩) (by assumption) ?_
                          rotate_left
                          · intro w hSw; (try dsimp only at hSw); go_simp; try with_reducible rfl
                          simp only [Act.put, List.getElem_toArray, List.getElem_cons_zero, List.getElem_cons_succ, List.setIfInBounds_toArray, List.set_cons_zero, List.set_cons_succ]
                          refine wpAnyH_take (i := 3) (v := ?_) rfl (by kernel_rfl) (by kernel_rfl) (by kernel_rfl) (fun _ _ _ h => h) (Or.inl ⟨by rfl, ?_⟩) (by assumption) ?_
                          rotate_left
                          · intro w hSw; (try dsimp only at hSw); go_simp; try with_reducible rfl
                          simp only [Act.put, List.getElem_toArray, List.getElem_cons_zero, List.getElem_cons_succ, List.setIfInBounds_toArray, List.set_cons_zero, List.set_cons_succ]
                          refine wpAnyH_take (i := 4) (v := ?_) rfl (by kernel_rfl) (by kernel_rfl) (by kernel_rfl) (fun _ _ _ h => h) (Or.inl ⟨by rfl, ?_⟩) (by assumption) ?_
                          rotate_left
                          · intro w hSw; (try dsimp only at hSw); go_simp; try with_reducible rfl
                          simp only [Act.put, List.getElem_toArray, List.getElem_cons_zero, List.getElem_cons_succ, List.setIfInBounds_toArray, List.set_cons_zero, List.set_cons_succ]
                          refine wpAnyH_take (i := 5) (v := ?_) rfl (by kernel_rfl) (by kernel_rfl) (by kernel_rfl) (fun _ _ _ h => h) (Or.inl ⟨by rfl, ?_⟩) (by assumption) ?_
                          rotate_left
                          · intro w hSw; (try dsimp only at hSw); go_simp; try with_reducible rfl
                          simp only [Act.put, List.getElem_toArray, List.getElem_cons_zero, List.getElem_cons_succ, List.setIfInBounds_toArray, List.set_cons_zero, List.set_cons_succ]
                          refine wpAnyH_take (i := 6) (v := ?_) rfl (by kernel_rfl) (by kernel_rfl) (by kernel_rfl) (fun _ _ _ h => h) (Or.inl ⟨by rfl, ?_⟩) (by assumption) ?_
                          rotate_left
                          · intro w hSw; (try dsimp only at hSw); go_simp; try with_reducible rfl
                          simp only [Act.put, List.getElem_toArray, List.getElem_cons_zero, List.getElem_cons_succ, List.setIfInBounds_toArray, List.set_cons_zero, List.set_cons_succ]
                          refine wpAnyH_take (i := 7) (v := ?_) rfl (by kernel_rfl) (by kernel_rfl) (by kernel_rfl) (fun _ _ _ h => h) (Or.inl ⟨by rfl, ?_⟩) (by assumption) ?_
                          rotate_left
                          · intro w hSw; (try dsimp only at hSw); go_simp; try with_reducible rfl
                          simp only [Act.put, List.getElem_toArray, List.getElem_cons_zero, List.getElem_cons_succ, List.setIfInBounds_toArray, List.set_cons_zero, List.set_cons_succ]
                          refine wpAnyH_take (i := 8) (v := ?_) rfl (by kernel_rfl) (by kernel_rfl) (by kernel_rfl) (fun _ _ _ h => h) (Or.inl ⟨by rfl, ?_⟩) (by assumption) ?_
                          rotate_left
                          · intro w hSw; (try dsimp only at hSw); go_simp; try with_reducible rfl
                          simp only [Act.put, List.getElem_toArray, List.getElem_cons_zero, List.getElem_cons_succ, List.setIfInBounds_toArray, List.set_cons_zero, List.set_cons_succ]
                          refine wpAnyH_take (i := 9) (v := ?_) rfl (by kernel_rfl) (by kernel_rfl) (by kernel_rfl) (fun _ _ _ h => h) (Or.inl ⟨by rfl, ?_⟩) (by assumption) ?_
                          rotate_left
                          · intro w hSw; (try dsimp only at hSw); go_simp; try with_reducible rfl
                          simp only [Act.put, List.getElem_toArray, List.getElem_cons_zero, List.getElem_cons_succ, List.setIfInBounds_toArray, List.set_cons_zero, List.set_cons_succ]
                          refine wpAnyH_ready (rs := [2]) (by kernel_rfl) (by simp) ?_
                          refine AllReadyH.cons rfl (fun K hK => ?_) AllReadyH.nil
                          go_simp
                          refine (reg_in (HD12.out.chip.drewN 1) k4 v Hv.out k4 rfl).mono ?_
                          rintro e w1 ⟨rfl, rfl⟩
                          refine hK.out _ _ ⟨kr, kv⟩ (fun hHeld2 => ?_)
                          refine wpAnyH_take (i := 10) (v := ?_) rfl (by kernel_rfl) (by kernel_rfl) (by kernel_rfl) (fun _ _ _ h => h) (Or.inl ⟨by rfl, ?_⟩) (by assumption) ?_
                          rotate_left
                          · intro w hSw; (try dsimp only at hSw); go_simp; try with_reducible rfl
                          simp only [Act.put, List.getElem_toArray, List.getElem_cons_zero, List.getElem_cons_succ, List.setIfInBounds_toArray, List.set_cons_zero, List.set_cons_succ]
                          clear hK K hHeld hHeld2
                          refine wpAnyH_done (by kernel_rfl) ?_ _
                          refine NoPanic.normal ?_
                          clear kr kv
                          go_wp2_with fail
                          exact ⟨⟨k4 + 1, by omega, by go_num, HD12.out.drewN 1, below_drewN Hb12.out 1⟩, by simp [intOf]; omega⟩
                        · have hk16 : ¬ (k4 : Int) < 16 := by omega
                          have HD12 := Lib.hid hD12
                          have Hb12 := Lib.hid hb12
                          clear hb12 hD12
                          go_wp2_with fail
                          exact ⟨⟨j + 1, by omega, by go_num, ⟨_, _, _, _, _, HD12.out⟩, Hb12.out⟩, by simp [intOf]; omega⟩
              · have HD3 := Lib.hid hD3
                have Hb3 := Lib.hid hb3
                have Hbw3 := Lib.hid hbw3
                clear hbw3 hb3 hD3
                go_wp2_with fail
                refine (used_nil _).mono ?_
                rintro e w5 ⟨rfl, rfl⟩
                go_wp2_with fail
                refine (move_nil _ 8 8 _ _).mono ?_
                rintro e w6 ⟨rfl, rfl⟩
                go_wp2_with fail
                go_ret
                exact ⟨rfl, Hbw3.out⟩
  · have Hmay := Lib.hid hmay
    clear hmay
    go_upto_region 4 with fail
    clear hmin
    go_wp2_with fail
    refine (rmay_no _ base (8 * (nl : Int)) hb00 Hmay.out).mono ?_
    rintro e w6 ⟨rfl, rfl⟩
    go_wp2_with fail
    go_ret
    exact ⟨rfl, Hb01.out⟩
end Go.Proofs.Ytndmhnmclogpcaa
