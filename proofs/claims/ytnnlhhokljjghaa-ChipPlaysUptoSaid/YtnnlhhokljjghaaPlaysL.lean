/- Walk of ChipPlays: machines answer every script of calls and steps. Conditions: the arguments lie in memory, each of at most 1048576 places. -/
import Derived.Test.YtnnlhhokljjghaaRefIs
import Derived.Test.YtnnlhhokljjghaaOneA
set_option linter.unusedVariables false
set_option linter.unusedSimpArgs false
namespace Go.Proofs.Ytnnlhhokljjghaa
open Go.RowKit

/-- a call of a script -/
structure OpD where
  kind : Int
  n : Int
  a : Int
  v : Int
  bA : Option Addr
  bn : Nat
  bc : Nat
  xs : List Int
def opCells (o : OpD) : List Value := [.int .i64 o.kind, .int .i64 o.n, .int .u64 o.a, .int .u64 o.v, .slice o.bA o.bn o.bc]
/-- a call that came in -/
structure OpIn (w : World) (o : OpD) : Prop where
  wk : -9223372036854775808 ≤ o.kind ∧ o.kind ≤ 9223372036854775807
  wn : -9223372036854775808 ≤ o.n ∧ o.n ≤ 9223372036854775807
  wa : U64 o.a
  wv : U64 o.v
  rd : Reads w w.heap.size 1 o.bA o.bn (byteVals o.xs)
  len : o.xs.length = o.bn
  byte : ∀ x ∈ o.xs, 0 ≤ x ∧ x < 256
  cap : o.bn ≤ o.bc ∧ o.bc ≤ maxLen ∧ o.bn ≤ 140737488351232
theorem op_cells {w : World} {B n : Nat} {ad : Addr} {l : List OpD} (h : Reads w B 5 (some ad) n (l.flatMap opCells)) {k : Nat} {o : OpD} (hk : l[k]? = some o) (hn : 0 < n) :
    w.cell? (ad.add (k * 5)) = some (.int .i64 o.kind) ∧ w.cell? ⟨(ad.add (k * 5)).block, (ad.add (k * 5)).off + 1, none⟩ = some (.int .i64 o.n) ∧ w.cell? ⟨(ad.add (k * 5)).block, (ad.add (k * 5)).off + 2, none⟩ = some (.int .u64 o.a) ∧
      w.cell? ⟨(ad.add (k * 5)).block, (ad.add (k * 5)).off + 3, none⟩ = some (.int .u64 o.v) ∧ w.cell? ⟨(ad.add (k * 5)).block, (ad.add (k * 5)).off + 4, none⟩ = some (.slice o.bA o.bn o.bc) := by
  obtain ⟨ad', e, _, hc⟩ := h.2 hn
  injection e with e
  subst e
  have hg := fun j hj => flatMap_get (f := opCells) (c := 5) (fun _ => rfl) l k o hk j hj
  refine ⟨hc _ _ (hg 0 (by omega)), ?_, ?_, ?_, ?_⟩
  · rw [addr_sub ad (k * 5) 1 (by omega)]; exact hc _ _ (hg 1 (by omega))
  · rw [addr_sub ad (k * 5) 2 (by omega)]; exact hc _ _ (hg 2 (by omega))
  · rw [addr_sub ad (k * 5) 3 (by omega)]; exact hc _ _ (hg 3 (by omega))
  · rw [addr_sub ad (k * 5) 4 (by omega)]; exact hc _ _ (hg 4 (by omega))
section
variable {w w' : World} {loC loR p : Nat} {A : Option Addr} {c : Nat} {sv : Value} {q rg wg : Nat} {A2 : Option Addr} {c2 : Nat} {l : List MInstD} {regs : List Int} {pc base : Int} {ws regs2 : List Int} {pc2 base2 : Int} {ws2 : List Int}
theorem CodeM.keepA {Ax : Option Addr} {B : Nat} (h : CodeM w B A c l) (hk : Keeps (BlkOf Ax) w w') (hB : B ≤ w.heap.size) (hne : ∀ ad, A = some ad → ¬ BlkOf Ax ad.block) : CodeM w' B A c l :=
  ⟨h.cap, h.fit, ⟨h.rd.1, fun hn => by
    obtain ⟨ad, hA, hlt, hcell⟩ := h.rd.2 hn
    refine ⟨ad, hA, hlt, fun j u hu => ?_⟩
    rw [hk.cell (by rw [block_of_add]; omega) (by rw [block_of_add]; exact hne ad hA)]
    exact hcell j u hu⟩, h.wf, h.good⟩
/-- a row that lies ahead of both machines is overwritten -/
theorem Duo.keepH (h : Duo w loC loR p A c sv q rg wg A2 c2 l regs pc base ws regs2 pc2 base2 ws2) {Ax : Option Addr} {B : Nat} (hk : Keeps (BlkOf Ax) w w') (hg : ∀ g, BlkOf Ax g → g < B) (hB : B ≤ loC) (hA : ∀ ad, A = some ad → B ≤ ad.block) (hA2 : ∀ ad, A2 = some ad → B ≤ ad.block) :
    Duo w' loC loR p A c sv q rg wg A2 c2 l regs pc base ws regs2 pc2 base2 ws2 := by
  have hlo := h.lo
  have h1 := h.chip.low
  have h2 := h.ref.low
  have hn : ∀ i, B ≤ i → ¬ BlkOf Ax i := fun i hi hb => by have := hg i hb; omega
  refine ⟨h.chip.keep hk (hn _ (by omega)) (fun k h3 => hn k (by have := (h.chip.row.lt k h3).1; omega)), h.code.keepA hk (by omega) (fun ad e => hn _ (hA ad e)), h.ref.keep hk (hn _ (by omega)) (hn _ (by omega)) (hn _ (by omega)), h.rcode.keepA hk hlo.2 (fun ad e => hn _ (hA2 ad e)), hk.own h.row (fun k h3 => hn k (by have := (h.row.lt k h3).1; omega)), h.pl⟩
end
set_option maxRecDepth 100000 in
set_option maxHeartbeats 8000000 in
theorem walk_ChipPlays (w : World) (A0 : Option Addr) (n0 c0 : Nat) (z0 : List MInstD) (r0 : Reads w w.heap.size 5 A0 n0 (z0.flatMap mcells)) (l0 : z0.length = n0) (nc0 : n0 ≤ c0) (cm0 : c0 ≤ maxLen) (u0 : n0 ≤ 1048576) (w0 : ∀ i ∈ z0, i.Wf)
    (base size : Int) (wb : U64 base) (ws : -9223372036854775808 ≤ size ∧ size ≤ 9223372036854775807)
    (A2 : Option Addr) (n2 c2 : Nat) (z2 : List OpD) (r2 : Reads w w.heap.size 5 A2 n2 (z2.flatMap opCells)) (l2 : z2.length = n2) (nc2 : n2 ≤ c2) (cm2 : c2 ≤ maxLen) (u2 : n2 ≤ 140737488351232) (w2 : ∀ o ∈ z2, OpIn w o) :
    Calls Try.prog 7 #[.slice A0 n0 c0, .agg #[.int .u64 base, .int .i64 size], .slice A2 n2 c2] w fun e w' => e = .returned (.bool true) ∧ Below w.heap.size w w' := by
  unfold maxLen at cm0 cm2
  obtain ⟨im, hm0, hm1, hm2, hm3⟩ := info_parts infoM
  have hP0 := Blk.new w 60 #[.int .u64 base, .int .i64 size]
  have hb0 := (Below.refl w.heap.size w).alloc (Nat.le_refl _) (.cells #[.int .u64 base, .int .i64 size] 60)
  have kp0 := Blk.cell hP0 0
  have kp1 := Blk.cell hP0 1
  simp only [List.getElem?_toArray, List.getElem?_cons_zero, List.getElem?_cons_succ] at kp0 kp1
  obtain ⟨gz, hgz⟩ : ∃ gz, z0.all goodP = gz := ⟨_, rfl⟩
  have Hr0 := Lib.hid r0
  have Hl0 := Lib.hid l0
  have Hw0 := Lib.hid w0
  have Hr2 := Lib.hid r2
  have Hl2 := Lib.hid l2
  have Hw2 := Lib.hid w2
  have Hwb := Lib.hid wb
  have Hws := Lib.hid ws
  have Hgz := Lib.hid hgz
  have HP0 := Lib.hid hP0
  have Hb0 := Lib.hid hb0
  clear hb0 hP0 hgz ws wb w2 l2 r2 w0 l0 r0
  go_enter Try.func7, Try.ntmps7
  go_upto_region 1 with fail
  go_quiet (fail)
  have hb00 := below_drewN Hb0.out nq
  obtain ⟨v0, hv0⟩ : ∃ v0, v0 = (w.alloc (.cells #[.int .u64 base, .int .i64 size] 60)).drewN nq := ⟨_, rfl⟩
  rw [← hv0] at hb00 ⊢
  have Hv0 := Lib.hid hv0
  have Hb00 := Lib.hid hb00
  clear hb00 hv0
  clear kp0 kp1
  go_wp2_with fail
  refine (first_any v0).mono ?_
  rintro e v1 ⟨rfl, hb1⟩
  have hb01 := Hb00.out.trans (hb1.mono Hb00.out.size)
  have hq0 := Hr0.out.below hb01
  have Hb01 := Lib.hid hb01
  have Hq0 := Lib.hid hq0
  clear hq0 hb01
  clear hb1
  go_wp2_with fail
  refine (encode_any A0 n0 c0 z0 v1 w.heap.size Hq0.out Hl0.out (by omega) Hb01.out.size Hw0.out).mono ?_
  rintro e v2 ⟨hres, hb2⟩
  have hb02 := Hb01.out.trans (hb2.mono Hb01.out.size)
  obtain ⟨sv, er, rfl, hres2⟩ : ∃ sv er, e = .returned (.tuple #[sv, .int .i64 er]) ∧ ((gz = true ∧ er = 0 ∧ v2.ownsRow v1.heap.size 5 1 sv (8 * n0) (byteVals (z0.flatMap mbytes))) ∨ (gz = false ∧ er = 200 ∧ sv = .slice none 0 0)) := by
    rcases hres with ⟨ha, sv, rfl, ho⟩ | ⟨ha, rfl⟩
    · exact ⟨sv, 0, rfl, .inl ⟨by rw [← Hgz.out, ha], rfl, ho⟩⟩
    · exact ⟨_, 200, rfl, .inr ⟨by rw [← Hgz.out, ha], rfl, rfl⟩⟩
  have hs2 := hb02.size
  have Hb02 := Lib.hid hb02
  have Hres2 := Lib.hid hres2
  clear hres2 hb02
  clear hres hb2
  go_wp2_with fail
  go_loopw [32] (fun i wq => ∃ k : Nat, k ≤ n0 ∧ i = .int .i64 k ∧ Hid ((z0.take k).all goodP = true) ∧ Below v2.heap.size v2 wq) (fun i _ => n0 - (intOf i).toNat)
  case atStart => exact ⟨0, by omega, rfl, (show ([] : List MInstD).all goodP = true from rfl), Below.refl _ _⟩
  case round =>
    obtain ⟨k, hk, rfl, hall, hbw⟩ := hrel
    by_cases hlt : k < n0
    · obtain ⟨i, hik⟩ : ∃ i, z0[k]? = some i := ⟨_, List.getElem?_eq_getElem (by have := Hl0.out; omega)⟩
      have hrw := Hr0.out.below (Hb02.out.trans (hbw.mono hs2))
      obtain ⟨ad, hA, _, _⟩ := hrw.2 (by omega)
      subst hA
      obtain ⟨c0, c1, c2, c3, c4⟩ := mi_cells hrw hik (by omega)
      have hwf := Hw0.out i (List.mem_of_getElem? hik)
      have htake : z0.take (k + 1) = z0.take k ++ [i] := by rw [List.take_add_one, hik]; rfl
      have hsz := hbw.size
      have himem := List.mem_of_getElem? hik
      obtain ⟨op, d, a, b, imm⟩ := i
      simp only at c0 c1 c2 c3 c4
      have hbox := hbw.alloc hsz (.cells #[.int .u8 op, .int .i64 d, .int .i64 a, .int .i64 b, .int .i32 imm] 30)
      have hP := Blk.new wr 30 #[.int .u8 op, .int .i64 d, .int .i64 a, .int .i64 b, .int .i32 imm]
      have kp0 := Blk.cell hP 0
      have kp1 := Blk.cell hP 1
      have kp2 := Blk.cell hP 2
      have kp3 := Blk.cell hP 3
      have kp4 := Blk.cell hP 4
      simp only [List.getElem?_toArray, List.getElem?_cons_zero, List.getElem?_cons_succ] at kp0 kp1 kp2 kp3 kp4
      rcases hg : goodP ⟨op, d, a, b, imm⟩ with _ | _
      · have hgzf : gz = false := by
          rw [← Hgz.out]
          rcases hz : z0.all goodP with _ | _
          · rfl
          · have := List.all_eq_true.1 hz _ himem
            rw [hg] at this; cases this
        rcases Hres2.out with ⟨e1, _⟩ | ⟨_, e2, e3⟩
        · rw [hgzf] at e1; cases e1
        subst e2 e3
        have Hwf := Lib.hid hwf
        have Htake := Lib.hid htake
        have Hbox := Lib.hid hbox
        have HP := Lib.hid hP
        have Hik := Lib.hid hik
        have Himem := Lib.hid himem
        have Hgzf := Lib.hid hgzf
        have Hg := Lib.hid hg
        have Hbw := Lib.hid hbw
        clear hbw hg hgzf himem hik hP hbox htake hwf
        go_wp2_with fail
        refine (is_any ⟨op, d, a, b, imm⟩ Hwf.out _).mono ?_
        rintro e w4 ⟨rfl, hb4⟩
        rw [Hg.out]
        have hfin := Hb02.out.trans ((Hbox.out.trans (hb4.mono Hbox.out.size)).mono hs2)
        have Hfin := Lib.hid hfin
        clear hfin
        clear hb4 kp0 kp1 kp2 kp3 kp4
        go_wp2_with fail
        go_ret
        exact ⟨rfl, Hfin.out⟩
      · have hall2 : (z0.take (k + 1)).all goodP = true := by rw [htake]; simp [hall.out, hg]
        have Hwf := Lib.hid hwf
        have Htake := Lib.hid htake
        have Hbox := Lib.hid hbox
        have HP := Lib.hid hP
        have Hik := Lib.hid hik
        have Himem := Lib.hid himem
        have Hg := Lib.hid hg
        have Hbw := Lib.hid hbw
        have Hall2 := Lib.hid hall2
        clear hall2 hbw hg himem hik hP hbox htake hwf
        go_wp2_with fail
        refine (is_any ⟨op, d, a, b, imm⟩ Hwf.out _).mono ?_
        rintro e w4 ⟨rfl, hb4⟩
        rw [Hg.out]
        have hbn := Hbox.out.trans (hb4.mono Hbox.out.size)
        have Hbn := Lib.hid hbn
        clear hbn
        clear hb4 kp0 kp1 kp2 kp3 kp4
        go_wp2_with fail
        exact ⟨⟨k + 1, by omega, by go_num, Lib.hid Hall2.out, Hbn.out⟩, by simp [intOf]; omega⟩
    · have hkn : k = n0 := by omega
      have htk : z0.take k = z0 := List.take_of_length_le (by rw [Hl0.out]; omega)
      have hgood : ∀ i ∈ z0, goodP i = true := List.all_eq_true.1 (by rw [← htk]; exact hall.out)
      have hgzt : gz = true := by rw [← Hgz.out, ← htk]; exact hall.out
      rcases Hres2.out with ⟨_, e2, hown2⟩ | ⟨e1, _⟩
      case inr => rw [hgzt] at e1; cases e1
      subst e2
      have hownw := own_kept' hown2 (only_of_below hbw none) nofun
      obtain ⟨A1, c1, rfl, hn1, hc1, hr1⟩ := own_any hownw
      have hlb : ∀ g, BlkOf A1 g → v1.heap.size ≤ g ∧ g < v2.heap.size := fun g hg => by
        obtain ⟨ad, rfl, rfl⟩ := hg
        exact hown2.lt _ rfl
      have hbww := Hb02.out.trans (hbw.mono hs2)
      have hsw := hbww.size
      have hv2w := hbw.size
      have hmb : ∀ i ∈ z0, i.Wf ∧ goodP i = true := fun i hi => ⟨Hw0.out i hi, hgood i hi⟩
      have hdec : decM (8 * n0 / 8) (z0.flatMap mbytes) = some z0 := by have := decM_flat z0 hmb; rw [Hl0.out] at this; rwa [show 8 * n0 / 8 = n0 by omega]
      have hfl : (z0.flatMap mbytes).length = 8 * n0 := by rw [mbytes_flen, Hl0.out]
      have hbd := mbytes_bd z0 hmb
      have hwb0 := Hwb.out.1
      by_cases hmay : MayP base size
      · have hv1w : w.heap.size ≤ v1.heap.size := Hb01.out.size
        have Hmay := Lib.hid hmay
        have Hgood := Lib.hid hgood
        have Hgzt := Lib.hid hgzt
        have Hownw := Lib.hid hownw
        have Hr1 := Lib.hid hr1
        have Hbww := Lib.hid hbww
        have Hbw := Lib.hid hbw
        have Hmb := Lib.hid hmb
        have Hdec := Lib.hid hdec
        have Hfl := Lib.hid hfl
        have Hbd := Lib.hid hbd
        have Htk := Lib.hid htk
        have Hlb := Lib.hid hlb
        have Hall := Lib.hid hall
        have Hown2 := Lib.hid hown2
        have Hv1w := Lib.hid hv1w
        clear hv1w hown2 hall hlb htk hbd hfl hdec hmb hbw hbww hr1 hownw hgzt hgood hmay
        go_wp2_with fail
        refine (new_codeX wr base size Hmay.out A1 (8 * n0) c1 _ z0 wr.heap.size Hr1.out Hfl.out hn1 hc1 (by omega) (Nat.le_refl _) Hbd.out (by omega) Hdec.out).mono ?_
        rintro e w5 ⟨loC, p, Ac, cc, sv, rfl, hC, hM, hlo, hb5, hblk⟩
        have hbb5 := Hbww.out.trans (hb5.mono Hbww.out.size)
        have hloC := hC.loLt
        have hpl := hC.lt
        have HC := Lib.hid hC
        have HM := Lib.hid hM
        have Hb5 := Lib.hid hb5
        have Hblk := Lib.hid hblk
        have Hbb5 := Lib.hid hbb5
        clear hbb5 hblk hb5 hM hC
        go_wp2_with fail
        refine (rmay_yes _ base size Hmay.out).mono ?_
        rintro e w6 ⟨rfl, rfl⟩
        have hlit := own_lit0 w5 30 5
        have hrd1 := (Hr0.out.below Hbb5.out).alloc Hbb5.out.size (.cells #[] 30)
        have Hlit := Lib.hid hlit
        have Hrd1 := Lib.hid hrd1
        clear hrd1 hlit
        go_wp2_with (first
          | (at_builtin
             refine wpList_append_any _ rfl (.tmp 72) (.tmp 73) _ rfl w5.heap.size 30 im _ 5 40 Try.underlying22 hm0 hm1 hm2 hm3 rfl (by omega) _ 0 [] rfl Hlit.out w.heap.size A0 n0 c0 (z0.flatMap mcells) rfl Hrd1.out ?c1 ?c2 ?c3 ?c4 ?_
             case c1 => intro u hu; obtain ⟨i, _, hu⟩ := List.mem_flatMap.1 hu; simp only [mcells, List.mem_cons, List.not_mem_nil, or_false] at hu; rcases hu with rfl | rfl | rfl | rfl | rfl <;> rfl
             case c2 => simp only [maxLen]; omega
             case c3 => omega
             case c4 => simp
             intro v9 w9 hown9 hg9 hat9
             rw [Nat.zero_add, List.nil_append] at hown9
             obtain ⟨Rc, rc, rfl, hrn, hrc, hro⟩ := own_any hown9))
        have hb9 : Below w5.heap.size w5 w9 := ((Below.refl w5.heap.size w5).alloc (Nat.le_refl _) (.cells #[] 30)).grown hg9 (by simp) (fun g e => (Hlit.out.lt g e).1)
        have hrblk : ∀ ad, Rc = some ad → w5.heap.size ≤ ad.block := fun ad e => by subst e; exact (hown9.lt _ rfl).1
        have hs9 := hb9.size
        have Hown9 := Lib.hid hown9
        have Hro := Lib.hid hro
        have Hb9 := Lib.hid hb9
        have Hrblk := Lib.hid hrblk
        clear hrblk hb9 hro hown9
        clear hg9 hat9
        refine (rnew_any w9 Rc n0 rc base size Hmay.out).mono ?_
        rintro e w10 ⟨q, rg, wg, rfl, hR, hb10⟩
        have hb510 := Hb9.out.trans (hb10.mono hs9)
        have hs10 := hb10.size
        have hwrw5 := Hb5.out.size
        have hDuo : Duo w10 loC w9.heap.size p Ac cc sv q rg wg Rc rc z0 (regs0 (base + size)) 0 base (List.replicate (size / 8).toNat 0) (regs0 (base + size)) 0 base (List.replicate (size / 8).toNat 0) := by
          have hrow := own_kept' Hown9.out (only_of_below hb10 none) nofun
          have hro10 := Hro.out.below hb10
          rw [← Hl0.out] at hR hrow hro10
          refine ⟨HC.out.below hb510, HM.out.below (hb510.mono hloC) hloC, hR, ⟨by rw [Hl0.out]; exact hrn, by rw [Hl0.out]; omega, hro10, Hw0.out, Hgood.out⟩, own_base hrow hloC, by omega⟩
        have hbb10 := Hbb5.out.trans (hb510.mono Hbb5.out.size)
        have hxr0 := XRow.of_own (own_kept' (own_kept' Hownw.out (only_of_below Hb5.out none) nofun) (only_of_below hb510 none) nofun)
        obtain ⟨nb, hnb⟩ : ∃ nb, 8 * n0 = nb := ⟨_, rfl⟩
        have hnb8 : nb ≤ 8388608 := by omega
        rw [hnb] at hxr0 hn1 ⊢
        unfold maxLen at hc1
        have HDuo := Lib.hid hDuo
        have Hbb10 := Lib.hid hbb10
        have Hxr0 := Lib.hid hxr0
        have Hnb := Lib.hid hnb
        have HR := Lib.hid hR
        have Hb10 := Lib.hid hb10
        have Hb510 := Lib.hid hb510
        clear hb510 hb10 hR hnb hxr0 hbb10 hDuo
        go_wp2_with fail
        go_loopw [80] (fun i wq => ∃ j : Nat, j ≤ nb ∧ i = .int .i64 j ∧ XRow wq A1 nb v1.heap.size ∧ Keeps (BlkOf A1) w10 wq) (fun i _ => nb - (intOf i).toNat)
        case atStart => exact ⟨0, by omega, rfl, Hxr0.out, Keeps.refl _ _⟩
        case round =>
          obtain ⟨j, hj, rfl, hxr, hkq⟩ := hrel
          by_cases hjn : j < nb
          · obtain ⟨g, cur, hA, hgB, hBk, hcur⟩ := hxr (by omega)
            subst hA
            obtain ⟨y, hy⟩ := hcur j hjn
            have kz := hBk.cell j
            rw [hy] at kz
            have fz := hBk.frozen j
            have hjnI : (j : Int) < nb := by omega
            have Hy := Lib.hid hy
            have HBk := Lib.hid hBk
            have Hcur := Lib.hid hcur
            have Hkq := Lib.hid hkq
            have Hxr := Lib.hid hxr
            clear hxr hkq hcur hBk hy
            go_wp2_with fail
            refine ⟨⟨j + 1, by omega, by go_num, XRow.set hgB HBk.out Hcur.out _, Hkq.out.setCell (p := ⟨g, j, none⟩) (.inl ⟨_, rfl, rfl⟩) _⟩, by simp [intOf]; omega⟩
          · have hDq := HDuo.out.keepH hkq (B := v2.heap.size) (fun g hg => (Hlb.out g hg).2) (by omega) (fun ad e => by have := Hblk.out ad e; omega) (fun ad e => by have := Hrblk.out ad e; omega)
            have hbq := Hbb10.out.trans (hkq.toBelow (B := w.heap.size) Hbb10.out.size (fun i hi => by have := (Hlb.out i hi).1; have := Hv1w.out; omega))
            have hwlC : w.heap.size ≤ loC := by omega
            have HDq := Lib.hid hDq
            have Hbq := Lib.hid hbq
            have Hkq := Lib.hid hkq
            have Hxr := Lib.hid hxr
            clear hxr hkq hbq hDq
            go_wp2_with fail
            go_loopw [89] (fun i wq => ∃ j : Nat, j ≤ n2 ∧ i = .int .i64 j ∧ Pair wq loC w9.heap.size p Ac cc q rg Rc rc z0 ∧ Below w.heap.size w wq) (fun i _ => n2 - (intOf i).toNat)
            case atStart => exact ⟨0, by omega, rfl, ⟨_, _, _, _, _, _, HDq.out⟩, Hbq.out⟩
            case round =>
              obtain ⟨j2, hj2, rfl, ⟨svq, wgq, regsq, pcq, baseq, wsq, hD⟩, hbq⟩ := hrel
              by_cases hlt2 : j2 < n2
              · obtain ⟨o, hok⟩ : ∃ o, z2[j2]? = some o := ⟨_, List.getElem?_eq_getElem (by have := Hl2.out; omega)⟩
                obtain ⟨ad2, hA2, _, _⟩ := (Hr2.out.below hbq).2 (by omega)
                subst hA2
                obtain ⟨c0', c1', c2', c3', c4'⟩ := op_cells (Hr2.out.below hbq) hok (by omega)
                have hin := Hw2.out o (List.mem_of_getElem? hok)
                obtain ⟨ok, on, oa, ov, bA, bn, bc, xs⟩ := o
                simp only at c0' c1' c2' c3' c4'
                have hP := Blk.new wr 66 #[.int .i64 ok, .int .i64 on, .int .u64 oa, .int .u64 ov, .slice bA bn bc]
                have kx0 := Blk.cell hP 0
                have kx1 := Blk.cell hP 1
                have kx2 := Blk.cell hP 2
                have kx3 := Blk.cell hP 3
                have kx4 := Blk.cell hP 4
                simp only [List.getElem?_toArray, List.getElem?_cons_zero, List.getElem?_cons_succ] at kx0 kx1 kx2 kx3 kx4
                have hDa := hD.below ((Below.refl wr.heap.size wr).alloc (Nat.le_refl _) (.cells #[.int .i64 ok, .int .i64 on, .int .u64 oa, .int .u64 ov, .slice bA bn bc] 66))
                have hba := hbq.alloc hbq.size (.cells #[.int .i64 ok, .int .i64 on, .int .u64 oa, .int .u64 ov, .slice bA bn bc] 66)
                have hra := (hin.rd.below hba).more hwlC
                have HD := Lib.hid hD
                have Hbq := Lib.hid hbq
                have Hok := Lib.hid hok
                have Hin := Lib.hid hin
                have HP := Lib.hid hP
                have HDa := Lib.hid hDa
                have Hba := Lib.hid hba
                have Hra := Lib.hid hra
                clear hra hba hDa hP hin hok hbq hD
                by_cases h60 : 60 ≤ j2
                · have h60' : (60 : Int) ≤ j2 := by omega
                  have HD := HDa
                  have Hbq := Hba
                  go_wp2_with fail
                  refine (same_any HD.out).mono ?_
                  rintro e w20 ⟨rfl, hb20⟩
                  have hfin := Hbq.out.trans (hb20.mono Hbq.out.size)
                  have Hfin := Lib.hid hfin
                  clear hfin
                  clear hb20
                  go_wp2_with fail
                  go_ret
                  exact ⟨rfl, Hfin.out⟩
                · have h60' : ¬ (60 : Int) ≤ j2 := by omega
                  go_wp2_with fail
                  refine (one_any HDa.out ok on oa ov Hin.out.wn Hin.out.wa Hin.out.wv bA bn bc xs Hra.out Hin.out.len Hin.out.byte Hin.out.cap.1 Hin.out.cap.2.1 Hin.out.cap.2.2).mono ?_
                  rintro e w12 ⟨rfl, ⟨sv3, wg3, regs3, pc3, base3, ws3, hD3⟩, hb12⟩
                  have hbb12 := Hba.out.trans (hb12.mono hwlC)
                  have HD3 := Lib.hid hD3
                  have Hbb12 := Lib.hid hbb12
                  clear hbb12 hD3
                  clear hb12 kx0 kx1 kx2 kx3 kx4 c0' c1' c2' c3' c4'
                  go_wp2_with fail
                  refine (same_any HD3.out).mono ?_
                  rintro e w13 ⟨rfl, hb13⟩
                  have hD4 := HD3.out.below hb13
                  have hbb13 := Hbb12.out.trans (hb13.mono Hbb12.out.size)
                  have HD4 := Lib.hid hD4
                  have Hbb13 := Lib.hid hbb13
                  clear hbb13 hD4
                  clear hb13
                  go_wp2_with fail
                  exact ⟨⟨j2 + 1, by omega, by go_num, ⟨_, _, _, _, _, _, HD4.out⟩, Hbb13.out⟩, by simp [intOf]; omega⟩
              · have HD := Lib.hid hD
                have Hbq := Lib.hid hbq
                clear hbq hD
                go_wp2_with fail
                refine (same_any HD.out).mono ?_
                rintro e w20 ⟨rfl, hb20⟩
                have hfin := Hbq.out.trans (hb20.mono Hbq.out.size)
                have Hfin := Lib.hid hfin
                clear hfin
                clear hb20
                go_wp2_with fail
                go_ret
                exact ⟨rfl, Hfin.out⟩
      · have Hmay := Lib.hid hmay
        have Hgood := Lib.hid hgood
        have Hgzt := Lib.hid hgzt
        have Hownw := Lib.hid hownw
        have Hr1 := Lib.hid hr1
        have Hbww := Lib.hid hbww
        have Hbw := Lib.hid hbw
        have Hmb := Lib.hid hmb
        have Hdec := Lib.hid hdec
        have Hfl := Lib.hid hfl
        have Hbd := Lib.hid hbd
        have Htk := Lib.hid htk
        have Hlb := Lib.hid hlb
        have Hall := Lib.hid hall
        have Hown2 := Lib.hid hown2
        clear hown2 hall hlb htk hbd hfl hdec hmb hbw hbww hr1 hownw hgzt hgood hmay
        go_wp2_with fail
        refine (new_arg wr base size hwb0 Hmay.out A1 (8 * n0) c1 _ z0 wr.heap.size Hr1.out Hfl.out hn1 hc1 (by omega) (Nat.le_refl _) Hbd.out (by omega) Hdec.out).mono ?_
        rintro e w5 ⟨rfl, hb5⟩
        have hfin := Hbww.out.trans (hb5.mono Hbww.out.size)
        have Hfin := Lib.hid hfin
        clear hfin
        clear hb5
        go_wp2_with fail
        refine (rmay_no _ base size hwb0 Hmay.out).mono ?_
        rintro e w6 ⟨rfl, rfl⟩
        go_wp2_with fail
        go_ret
        exact ⟨rfl, Hfin.out⟩
end Go.Proofs.Ytnnlhhokljjghaa
