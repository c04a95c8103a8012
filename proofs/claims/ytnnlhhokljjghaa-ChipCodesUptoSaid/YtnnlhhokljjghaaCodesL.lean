/- Walk of ChipCodes: which instructions there are, and their bytes, for lists and bytes of any size up to 1048576. Conditions: the arguments lie in memory. -/
import Derived.Test.YtnnlhhokljjghaaFirstM
import Derived.Test.YtnnlhhokljjghaaRefByt
import Derived.Test.YtnnlhhokljjghaaRefList
set_option linter.unusedVariables false
set_option linter.unusedSimpArgs false
namespace Go.Proofs.Ytnnlhhokljjghaa
open Go.RowKit

theorem conv_readsS (w : World) {B n c : Nat} {A : Option Addr} {xs : List Int} (h : Reads w B 1 A n (byteVals xs)) : (convert 23 9 (.slice A n c)).run Try.prog w = .ok (.string (strOfNums xs)) w :=
  run_conv_reads w _ _ _ Try.underlying23 Try.underlying5 Try.underlying9 h
theorem rbytes_flat {l : List MInstD} (h : ∀ i ∈ l, goodP i = true) : l.flatMap rbytes = l.flatMap mbytes := by
  induction l with
  | nil => rfl
  | cons x r ih => rw [List.flatMap_cons, List.flatMap_cons, rbytes_good (h x (List.mem_cons_self ..)), ih fun i hi => h i (List.mem_cons_of_mem _ hi)]
set_option maxRecDepth 100000 in
set_option maxHeartbeats 8000000 in
theorem walk_ChipCodes (w : World) (A0 : Option Addr) (n0 c0 : Nat) (z0 : List MInstD) (r0 : Reads w w.heap.size 5 A0 n0 (z0.flatMap mcells)) (l0 : z0.length = n0) (nc0 : n0 ≤ c0) (cm0 : c0 ≤ maxLen) (u0 : n0 ≤ 1048576) (w0 : ∀ i ∈ z0, i.Wf)
    (A1 : Option Addr) (n1 c1 : Nat) (z1 : List Int) (r1 : Reads w w.heap.size 1 A1 n1 (z1.map (Value.int .u8))) (l1 : z1.length = n1) (nc1 : n1 ≤ c1) (cm1 : c1 ≤ maxLen) (u1 : n1 ≤ 1048576) (w1 : ∀ z ∈ z1, 0 ≤ z ∧ z < 256) :
    Calls Try.prog 3 #[.slice A0 n0 c0, .slice A1 n1 c1] w fun e w' => e = .returned (.bool true) ∧ Below w.heap.size w w' := by
  obtain ⟨iu, hu0, hu1, hu2, hu3⟩ := info_parts infoU8
  unfold maxLen at cm0
  have hcm1 : c1 ≤ 9223372036854775807 := by unfold maxLen at cm1; omega
  obtain ⟨gz, hgz⟩ : ∃ gz, z0.all goodP = gz := ⟨_, rfl⟩
  have Hr0 := Lib.hid r0
  have Hr1 := Lib.hid r1
  have Hl0 := Lib.hid l0
  have Hl1 := Lib.hid l1
  have Hw0 := Lib.hid w0
  have Hw1 := Lib.hid w1
  have Hcm1 := Lib.hid cm1
  have Hgz := Lib.hid hgz
  clear hgz cm1 w1 w0 l1 l0 r1 r0
  go_enter Try.func3, Try.ntmps3
  go_wp2_with fail
  refine (first_any w).mono ?_
  rintro e v1 ⟨rfl, hb1⟩
  have hq0 := Hr0.out.below hb1
  have Hb1 := Lib.hid hb1
  have Hq0 := Lib.hid hq0
  clear hq0 hb1
  go_wp2_with fail
  refine (encode_any A0 n0 c0 z0 v1 w.heap.size Hq0.out Hl0.out (by omega) Hb1.out.size Hw0.out).mono ?_
  rintro e v2 ⟨hres, hb2⟩
  have hb02 := Hb1.out.trans (hb2.mono Hb1.out.size)
  obtain ⟨sv, er, rfl, hres2⟩ : ∃ sv er, e = .returned (.tuple #[sv, .int .i64 er]) ∧ ((gz = true ∧ er = 0 ∧ v2.ownsRow v1.heap.size 5 1 sv (8 * n0) (byteVals (z0.flatMap mbytes))) ∨ (gz = false ∧ er = 200 ∧ sv = .slice none 0 0)) := by
    rcases hres with ⟨ha, sv, rfl, ho⟩ | ⟨ha, rfl⟩
    · exact ⟨sv, 0, rfl, .inl ⟨by rw [← Hgz.out, ha], rfl, ho⟩⟩
    · exact ⟨_, 200, rfl, .inr ⟨by rw [← Hgz.out, ha], rfl, rfl⟩⟩
  have hs2 := hb02.size
  have Hb02 := Lib.hid hb02
  have Hres2 := Lib.hid hres2
  clear hres2 hb02
  clear hres hb2
  go_wp2_with fail
  go_loopw [7, 8, 27] (fun s g i wq => ∃ k : Nat, k ≤ n0 ∧ i = .int .i64 k ∧ g = .bool ((z0.take k).all goodP) ∧ wq.ownsRow v2.heap.size 5 1 s (8 * k) (byteVals ((z0.take k).flatMap rbytes)) ∧ Below v2.heap.size v2 wq) (fun _ _ i _ => n0 - (intOf i).toNat)
  case atStart => exact ⟨0, by omega, rfl, rfl, by simpa [byteVals] using World.ownsRow_nil _ _ _ _, Below.refl _ _⟩
  case round =>
    obtain ⟨k, hk, rfl, rfl, hown, hbw⟩ := hrel
    by_cases hlt : k < n0
    · obtain ⟨i, hik⟩ : ∃ i, z0[k]? = some i := ⟨_, List.getElem?_eq_getElem (by have := Hl0.out; omega)⟩
      have hrw := Hr0.out.below (Hb02.out.trans (hbw.mono hs2))
      obtain ⟨ad, hA, _, _⟩ := hrw.2 (by omega)
      subst hA
      obtain ⟨c0, c1, c2, c3, c4⟩ := mi_cells hrw hik (by omega)
      have hwf := Hw0.out i (List.mem_of_getElem? hik)
      have htake : z0.take (k + 1) = z0.take k ++ [i] := by rw [List.take_add_one, hik]; rfl
      have hsz := hbw.size
      obtain ⟨op, d, a, b, imm⟩ := i
      simp only at c0 c1 c2 c3 c4
      have hbox := hbw.alloc hsz (.cells #[.int .u8 op, .int .i64 d, .int .i64 a, .int .i64 b, .int .i32 imm] 30)
      have hP := Blk.new wr 30 #[.int .u8 op, .int .i64 d, .int .i64 a, .int .i64 b, .int .i32 imm]
      have hO := hown.alloc (.cells #[.int .u8 op, .int .i64 d, .int .i64 a, .int .i64 b, .int .i32 imm] 30)
      have kp0 := Blk.cell hP 0
      have kp1 := Blk.cell hP 1
      have kp2 := Blk.cell hP 2
      have kp3 := Blk.cell hP 3
      have kp4 := Blk.cell hP 4
      simp only [List.getElem?_toArray, List.getElem?_cons_zero, List.getElem?_cons_succ] at kp0 kp1 kp2 kp3 kp4
      have hall : (z0.take (k + 1)).all goodP = ((z0.take k).all goodP && goodP ⟨op, d, a, b, imm⟩) := by rw [htake]; simp
      have hflat : (z0.take (k + 1)).flatMap rbytes = (z0.take k).flatMap rbytes ++ rbytes ⟨op, d, a, b, imm⟩ := by rw [htake]; simp
      obtain ⟨g, hg⟩ : ∃ g, (z0.take k).all goodP = g := ⟨_, rfl⟩
      rw [hg] at hall ⊢
      have Hwf := Lib.hid hwf
      have Htake := Lib.hid htake
      have Hbox := Lib.hid hbox
      have HP := Lib.hid hP
      have HO := Lib.hid hO
      have Hall := Lib.hid hall
      have Hflat := Lib.hid hflat
      have Hg := Lib.hid hg
      clear hg hflat hall hO hP hbox htake hwf
      cases g with
      | true =>
        go_wp2_with fail
        refine (is_any ⟨op, d, a, b, imm⟩ Hwf.out _).mono ?_
        rintro e w4 ⟨rfl, hb4⟩
        have hP4 := HP.out.below hb4 HP.out.lt
        have hO4 := own_kept' HO.out (only_of_below hb4 none) nofun
        have hbox4 := Hbox.out.trans (hb4.mono Hbox.out.size)
        clear kp0 kp1 kp2 kp3 kp4
        have kp0 := Blk.cell hP4 0
        have kp1 := Blk.cell hP4 1
        have kp2 := Blk.cell hP4 2
        have kp3 := Blk.cell hP4 3
        have kp4 := Blk.cell hP4 4
        simp only [List.getElem?_toArray, List.getElem?_cons_zero, List.getElem?_cons_succ] at kp0 kp1 kp2 kp3 kp4
        have HO4 := Lib.hid hO4
        have Hbox4 := Lib.hid hbox4
        clear hbox4 hO4
        go_wp2_with fail
        refine (refbytes_any ⟨op, d, a, b, imm⟩ Hwf.out _).mono ?_
        rintro e w5 ⟨s8, rfl, hown8, hb5⟩
        obtain ⟨A8, c8, rfl, hn8, hc8, hr8⟩ := own_any hown8
        have hO5 := own_kept' HO4.out (only_of_below hb5 none) nofun
        have hbox5 := Hbox4.out.trans (hb5.mono Hbox4.out.size)
        have hs5 := hbox5.size
        have HO5 := Lib.hid hO5
        have Hbox5 := Lib.hid hbox5
        have Hr8 := Lib.hid hr8
        clear hr8 hbox5 hO5
        clear hown8 hb5
        go_wp2_with (first
          | (at_builtin
             refine wpList_append_any _ rfl (.tmp 36) (.tmp 38) _ rfl v2.heap.size 5 iu _ 1 1 Try.underlying23 hu0 hu1 hu2 hu3 rfl (by omega) _ (8 * k) _ rfl HO5.out w5.heap.size A8 8 c8 (byteVals (rbytes ⟨op, d, a, b, imm⟩)) rfl Hr8.out ?c1 ?c2 ?c3 ?c4 ?_
             case c1 => intro u hu; simp only [byteVals, List.mem_map] at hu; obtain ⟨y, _, rfl⟩ := hu; rfl
             case c2 => simp only [maxLen]; omega
             case c3 => omega
             case c4 => exact hs5
             intro v9 w9 hown9 hg9 hat9))
        have hb9 := Hbox5.out.grown hg9 hs5 (fun g e => (HO5.out.lt g e).1)
        refine ⟨⟨k + 1, by omega, by go_num, ?_, ?_, hb9⟩, by simp [intOf]; omega⟩
        · rw [Hall.out]; rfl
        · rw [Hflat.out, show byteVals ((z0.take k).flatMap rbytes ++ rbytes ⟨op, d, a, b, imm⟩) = byteVals ((z0.take k).flatMap rbytes) ++ byteVals (rbytes ⟨op, d, a, b, imm⟩) by simp [byteVals]]
          exact hown9
      | false =>
        have hO4 := HO.out
        have hbox4 := Hbox.out
        have HO4 := Lib.hid hO4
        have Hbox4 := Lib.hid hbox4
        clear hbox4 hO4
        go_wp2_with fail
        refine (refbytes_any ⟨op, d, a, b, imm⟩ Hwf.out _).mono ?_
        rintro e w5 ⟨s8, rfl, hown8, hb5⟩
        obtain ⟨A8, c8, rfl, hn8, hc8, hr8⟩ := own_any hown8
        have hO5 := own_kept' HO4.out (only_of_below hb5 none) nofun
        have hbox5 := Hbox4.out.trans (hb5.mono Hbox4.out.size)
        have hs5 := hbox5.size
        have HO5 := Lib.hid hO5
        have Hbox5 := Lib.hid hbox5
        have Hr8 := Lib.hid hr8
        clear hr8 hbox5 hO5
        clear hown8 hb5
        go_wp2_with (first
          | (at_builtin
             refine wpList_append_any _ rfl (.tmp 36) (.tmp 38) _ rfl v2.heap.size 5 iu _ 1 1 Try.underlying23 hu0 hu1 hu2 hu3 rfl (by omega) _ (8 * k) _ rfl HO5.out w5.heap.size A8 8 c8 (byteVals (rbytes ⟨op, d, a, b, imm⟩)) rfl Hr8.out ?c1 ?c2 ?c3 ?c4 ?_
             case c1 => intro u hu; simp only [byteVals, List.mem_map] at hu; obtain ⟨y, _, rfl⟩ := hu; rfl
             case c2 => simp only [maxLen]; omega
             case c3 => omega
             case c4 => exact hs5
             intro v9 w9 hown9 hg9 hat9))
        have hb9 := Hbox5.out.grown hg9 hs5 (fun g e => (HO5.out.lt g e).1)
        refine ⟨⟨k + 1, by omega, by go_num, ?_, ?_, hb9⟩, by simp [intOf]; omega⟩
        · rw [Hall.out]; rfl
        · rw [Hflat.out, show byteVals ((z0.take k).flatMap rbytes ++ rbytes ⟨op, d, a, b, imm⟩) = byteVals ((z0.take k).flatMap rbytes) ++ byteVals (rbytes ⟨op, d, a, b, imm⟩) by simp [byteVals]]
          exact hown9
    · have hkn : k = n0 := by omega
      have htk : z0.take k = z0 := List.take_of_length_le (by rw [Hl0.out]; omega)
      rw [htk, Hgz.out]
      rw [htk] at hown
      have hbww := Hb02.out.trans (hbw.mono hs2)
      have hq1 := Hr1.out.below hbww
      have hsw := hbww.size
      have hR2 := Hres2.out
      rcases hR2 with ⟨rfl, rfl, hown2⟩ | ⟨rfl, rfl, rfl⟩
      · have hgood : ∀ i ∈ z0, goodP i = true := List.all_eq_true.1 Hgz.out
        rw [rbytes_flat hgood, hkn] at hown
        have hownw := own_kept' hown2 (only_of_below hbw none) nofun
        obtain ⟨A2, c2, rfl, hn2, hc2, hr2⟩ := own_any hownw
        obtain ⟨A3, c3, rfl, hn3, hc3, hr3⟩ := own_any hown
        have hcv2 := conv_readsS wr (c := c2) hr2
        have hcv3 := conv_readsS wr (c := c3) hr3
        have Hbww := Lib.hid hbww
        have Hq1 := Lib.hid hq1
        have Htk := Lib.hid htk
        have Hsw := Lib.hid hsw
        clear hsw htk hq1 hbww
        clear hown hown2 hownw hr2 hr3 hbw
        by_cases h8 : n1 % 8 = 0
        · rcases hd : decM (n1 / 8) z1 with _ | l
          · have Hd := Lib.hid hd
            clear hd
            go_wp2_with fail
            refine (decode_any A1 n1 c1 z1 wr w.heap.size Hq1.out Hl1.out nc1 Hcm1.out (by omega) Hsw.out Hw1.out h8).mono ?_
            rintro e v5 ⟨hd1, hb5⟩
            rcases hd1 with ⟨l, s5, hd1, _⟩ | ⟨_, rfl⟩
            · rw [Hd.out] at hd1; cases hd1
            have hb50 := Hbww.out.trans (hb5.mono Hbww.out.size)
            have hq5 := Hr1.out.below hb50
            have Hb50 := Lib.hid hb50
            have Hq5 := Lib.hid hq5
            clear hq5 hb50
            clear hb5
            go_wp2_with fail
            refine (reflist_any A1 n1 c1 z1 v5 w.heap.size Hq5.out Hl1.out nc1 Hcm1.out (by omega) Hb50.out.size Hw1.out h8).mono ?_
            rintro e v6 ⟨hd2, hb6⟩
            rcases hd2 with ⟨l, s6, hd2, _⟩ | ⟨_, rfl⟩
            · rw [Hd.out] at hd2; cases hd2
            have hb60 := Hb50.out.trans (hb6.mono Hb50.out.size)
            have Hb60 := Lib.hid hb60
            clear hb60
            clear hb6
            go_wp2_with fail
            go_ret
            exact ⟨rfl, Hb60.out⟩
          · obtain ⟨hll, hlg⟩ := decM_all (n1 / 8) z1 l hd Hw1.out
            have hen := decM_enc (n1 / 8) z1 l hd (by rw [Hl1.out]; omega) Hw1.out
            have hag : l.all goodP = true := List.all_eq_true.2 fun i hi => (hlg i hi).2
            obtain ⟨m, hm⟩ : ∃ m, n1 / 8 = m := ⟨_, rfl⟩
            have hm8 : n1 = 8 * m := by omega
            rw [hm] at hd hll
            have hm1 : m ≤ 1048576 := by omega
            have Hd := Lib.hid hd
            have Hll := Lib.hid hll
            have Hlg := Lib.hid hlg
            have Hen := Lib.hid hen
            have Hag := Lib.hid hag
            have Hm := Lib.hid hm
            have Hm8 := Lib.hid hm8
            clear hm8 hm hag hen hlg hll hd
            go_wp2_with fail
            refine (decode_any A1 n1 c1 z1 wr w.heap.size Hq1.out Hl1.out nc1 Hcm1.out (by omega) Hsw.out Hw1.out h8).mono ?_
            rintro e v5 ⟨hd1, hb5⟩
            rw [Hm.out] at hd1
            rcases hd1 with ⟨l', s5, hd1, rfl, hown5⟩ | ⟨hd1, _⟩
            case inr => rw [Hd.out] at hd1; cases hd1
            rw [Hd.out] at hd1
            injection hd1 with hd1
            subst hd1
            obtain ⟨A5, c5, rfl, hn5, hc5, hr5⟩ := own_any hown5
            have hb50 := Hbww.out.trans (hb5.mono Hbww.out.size)
            have hq5 := Hr1.out.below hb50
            have Hb50 := Lib.hid hb50
            have Hq5 := Lib.hid hq5
            have Hr5 := Lib.hid hr5
            clear hr5 hq5 hb50
            clear hown5 hb5
            go_wp2_with fail
            refine (reflist_any A1 n1 c1 z1 v5 w.heap.size Hq5.out Hl1.out nc1 Hcm1.out (by omega) Hb50.out.size Hw1.out h8).mono ?_
            rintro e v6 ⟨hd2, hb6⟩
            rw [Hm.out] at hd2
            rcases hd2 with ⟨l', s6, hd2, rfl, hown6⟩ | ⟨hd2, _⟩
            case inr => rw [Hd.out] at hd2; cases hd2
            rw [Hd.out] at hd2
            injection hd2 with hd2
            subst hd2
            obtain ⟨A6, c6, rfl, hn6, hc6, hr6⟩ := own_any hown6
            have hb60 := Hb50.out.trans (hb6.mono Hb50.out.size)
            have hr56 := Hr5.out.below hb6
            have hs56 := hb6.size
            have Hb60 := Lib.hid hb60
            have Hr6 := Lib.hid hr6
            have Hr56 := Lib.hid hr56
            clear hr56 hr6 hb60
            clear hown6 hb6
            go_wp2_with fail
            refine (encode_any A5 m c5 l v6 v5.heap.size Hr56.out Hll.out (by omega) hs56 (fun i hi => (Hlg.out i hi).1)).mono ?_
            rintro e v7 ⟨hres7, hb7⟩
            rcases hres7 with ⟨_, s7, rfl, hown7⟩ | ⟨hno, _⟩
            case inr => rw [Hag.out] at hno; cases hno
            obtain ⟨A7, c7, rfl, hn7, hc7, hr7⟩ := own_any hown7
            have hb70 := Hb60.out.trans (hb7.mono Hb60.out.size)
            have hr57 := (Hr56.out.below (hb7.mono hs56))
            have hr67 := Hr6.out.below hb7
            rw [Hen.out] at hr7
            have hcv7 := conv_readsS v7 (c := c7) hr7
            have hcv8 := conv_readsS v7 (c := c1) (Hr1.out.below hb70)
            rw [← Hm8.out] at hcv7
            have Hb70 := Lib.hid hb70
            have Hr57 := Lib.hid hr57
            have Hr67 := Lib.hid hr67
            clear hr67 hr57 hb70
            clear hown7 hb7 hr7
            rw [← Hm8.out]
            go_wp2_with fail
            clear hcv7 hcv8
            go_loopw [105] (fun i wq => ∃ k : Nat, k ≤ m ∧ i = .int .i64 k ∧ ∃ q, wq = v7.drewN q) (fun i _ => m - (intOf i).toNat)
            case atStart => exact ⟨0, by omega, rfl, 0, rfl⟩
            case round =>
              obtain ⟨k9, hk9, rfl, q, hwr⟩ := hrel
              subst hwr
              by_cases hlt9 : k9 < m
              · obtain ⟨i, hik⟩ : ∃ i, l[k9]? = some i := ⟨_, List.getElem?_eq_getElem (by have := Hll.out; omega)⟩
                obtain ⟨ad5, hA5, _, _⟩ := Hr57.out.2 (by omega)
                subst hA5
                obtain ⟨ad6, hA6, _, _⟩ := Hr67.out.2 (by omega)
                subst hA6
                obtain ⟨e0, e1, e2, e3, e4⟩ := mi_cells (Hr57.out.drewN q) hik (by omega)
                obtain ⟨f0, f1, f2, f3, f4⟩ := mi_cells (Hr67.out.drewN q) hik (by omega)
                have Hik := Lib.hid hik
                clear hik
                obtain ⟨op, d, a, b, imm⟩ := i
                simp only at e0 e1 e2 e3 e4 f0 f1 f2 f3 f4
                have hk5 : (k9 : Int) < m := by omega
                go_upto_region 27 with fail
                refine wp_region_noPanic ?_
                refine wp_region_held_drew (S := fun W => W.cell? (ad5.add (k9 * 5)) = some (.int .u8 op) ∧ W.cell? ⟨(ad5.add (k9 * 5)).block, (ad5.add (k9 * 5)).off + 1, none⟩ = some (.int .i64 d) ∧ W.cell? ⟨(ad5.add (k9 * 5)).block, (ad5.add (k9 * 5)).off + 2, none⟩ = some (.int .i64 a) ∧ W.cell? ⟨(ad5.add (k9 * 5)).block, (ad5.add (k9 * 5)).off + 3, none⟩ = some (.int .i64 b) ∧ W.cell? ⟨(ad5.add (k9 * 5)).block, (ad5.add (k9 * 5)).off + 4, none⟩ = some (.int .i32 imm) ∧ W.cell? (ad6.add (k9 * 5)) = some (.int .u8 op) ∧ W.cell? ⟨(ad6.add (k9 * 5)).block, (ad6.add (k9 * 5)).off + 1, none⟩ = some (.int .i64 d) ∧ W.cell? ⟨(ad6.add (k9 * 5)).block, (ad6.add (k9 * 5)).off + 2, none⟩ = some (.int .i64 a) ∧ W.cell? ⟨(ad6.add (k9 * 5)).block, (ad6.add (k9 * 5)).off + 3, none⟩ = some (.int .i64 b) ∧ W.cell? ⟨(ad6.add (k9 * 5)).block, (ad6.add (k9 * 5)).off + 4, none⟩ = some (.int .i32 imm)) (by kernel_rfl) ⟨e0, e1, e2, e3, e4, f0, f1, f2, f3, f4⟩ (fun hHeld => ?_)
                refine wpAnyH_take (i := 0) (v := ?_) rfl (by kernel_rfl) (by kernel_rfl) (by kernel_rfl) (fun _ _ _ h => h) (Or.inl ⟨by rfl, ?_⟩) (by assumption) ?_
                rotate_left
                · intro w hSw; (try dsimp only at hSw); go_simp; try with_reducible rfl
                simp only [Act.put, List.getElem_toArray, List.getElem_cons_zero, List.getElem_cons_succ, List.setIfInBounds_toArray, List.set_cons_zero, List.set_cons_succ]
                refine wpAnyH_take (i := 1) (v := ?_) rfl (by kernel_rfl) (by kernel_rfl) (by kernel_rfl) (fun _ _ _ h => h) (Or.inl ⟨by rfl, ?_⟩) (by assumption) ?_
                rotate_left
                · intro w hSw; (try dsimp only at hSw); go_simp; try with_reducible rfl
                simp only [Act.put, List.getElem_toArray, List.getElem_cons_zero, List.getElem_cons_succ, List.setIfInBounds_toArray, List.set_cons_zero, List.set_cons_succ]
                refine wpAnyH_take (i := 2) (v := ?_) rfl (by kernel_rfl) (by kernel_rfl) (by kernel_rfl) (fun _ _ _ h => h) (Or.inl ⟨by rfl, ?_⟩) (by assumption) ?_
                rotate_left
                · intro w hSw; (try dsimp only at hSw); go_simp; try with_reducible rfl
                simp only [Act.put, List.getElem_toArray, List.getElem_cons_zero, List.getElem_cons_succ, List.setIfInBounds_toArray, List.set_cons_zero, List.set_cons_succ]
                refine wpAnyH_take (i := 3) (v := ?_) rfl (by kernel_rfl) (by kernel_rfl) (by kernel_rfl) (fun _ _ _ h => h) (Or.inl ⟨by rfl, ?_⟩) (by assumption) ?_
                rotate_left
                · intro w hSw; (try dsimp only at hSw); go_simp; try with_reducible rfl
                simp only [Act.put, List.getElem_toArray, List.getElem_cons_zero, List.getElem_cons_succ, List.setIfInBounds_toArray, List.set_cons_zero, List.set_cons_succ]
                refine wpAnyH_take (i := 4) (v := ?_) rfl (by kernel_rfl) (by kernel_rfl) (by kernel_rfl) (fun _ _ _ h => h) (Or.inl ⟨by rfl, ?_⟩) (by assumption) ?_
                rotate_left
                · intro w hSw; (try dsimp only at hSw); go_simp; try with_reducible rfl
                simp only [Act.put, List.getElem_toArray, List.getElem_cons_zero, List.getElem_cons_succ, List.setIfInBounds_toArray, List.set_cons_zero, List.set_cons_succ]
                refine wpAnyH_take (i := 5) (v := ?_) rfl (by kernel_rfl) (by kernel_rfl) (by kernel_rfl) (fun _ _ _ h => h) (Or.inl ⟨by rfl, ?_⟩) (by assumption) ?_
                rotate_left
                · intro w hSw; (try dsimp only at hSw); go_simp; try with_reducible rfl
                simp only [Act.put, List.getElem_toArray, List.getElem_cons_zero, List.getElem_cons_succ, List.setIfInBounds_toArray, List.set_cons_zero, List.set_cons_succ]
                refine wpAnyH_take (i := 6) (v := ?_) rfl (by kernel_rfl) (by kernel_rfl) (by kernel_rfl) (fun _ _ _ h => h) (Or.inl ⟨by rfl, ?_⟩) (by assumption) ?_
                rotate_left
                · intro w hSw; (try dsimp only at hSw); go_simp; try with_reducible rfl
                simp only [Act.put, List.getElem_toArray, List.getElem_cons_zero, List.getElem_cons_succ, List.setIfInBounds_toArray, List.set_cons_zero, List.set_cons_succ]
                refine wpAnyH_take (i := 7) (v := ?_) rfl (by kernel_rfl) (by kernel_rfl) (by kernel_rfl) (fun _ _ _ h => h) (Or.inl ⟨by rfl, ?_⟩) (by assumption) ?_
                rotate_left
                · intro w hSw; (try dsimp only at hSw); go_simp; try with_reducible rfl
                simp only [Act.put, List.getElem_toArray, List.getElem_cons_zero, List.getElem_cons_succ, List.setIfInBounds_toArray, List.set_cons_zero, List.set_cons_succ]
                refine wpAnyH_take (i := 8) (v := ?_) rfl (by kernel_rfl) (by kernel_rfl) (by kernel_rfl) (fun _ _ _ h => h) (Or.inl ⟨by rfl, ?_⟩) (by assumption) ?_
                rotate_left
                · intro w hSw; (try dsimp only at hSw); go_simp; try with_reducible rfl
                simp only [Act.put, List.getElem_toArray, List.getElem_cons_zero, List.getElem_cons_succ, List.setIfInBounds_toArray, List.set_cons_zero, List.set_cons_succ]
                refine wpAnyH_done (by kernel_rfl) ?_ _
                refine NoPanic.normal ?_
                rw [show (v7.drewN q).drew = v7.drewN (q + 1) from rfl]
                go_wp2_with fail
                exact ⟨⟨k9 + 1, by omega, by go_num, _, rfl⟩, by simp [intOf]; omega⟩
              · go_wp2_with fail
                go_ret
                exact ⟨rfl, below_drewN Hb70.out q⟩
        · go_wp2_with fail
          refine (decode_odd A1 n1 c1 _ (by unfold maxLen; omega) h8).mono ?_
          rintro e v5 ⟨rfl, rfl⟩
          go_wp2_with fail
          refine (reflist_odd A1 n1 c1 _ (by unfold maxLen; omega) h8).mono ?_
          rintro e v6 ⟨rfl, rfl⟩
          go_wp2_with fail
          go_ret
          exact ⟨rfl, Hbww.out⟩
      · have Hbww := Lib.hid hbww
        have Hq1 := Lib.hid hq1
        have Htk := Lib.hid htk
        have Hsw := Lib.hid hsw
        clear hsw htk hq1 hbww
        clear hown hbw
        by_cases h8 : n1 % 8 = 0
        · rcases hd : decM (n1 / 8) z1 with _ | l
          · have Hd := Lib.hid hd
            clear hd
            go_wp2_with fail
            refine (decode_any A1 n1 c1 z1 wr w.heap.size Hq1.out Hl1.out nc1 Hcm1.out (by omega) Hsw.out Hw1.out h8).mono ?_
            rintro e v5 ⟨hd1, hb5⟩
            rcases hd1 with ⟨l, s5, hd1, _⟩ | ⟨_, rfl⟩
            · rw [Hd.out] at hd1; cases hd1
            have hb50 := Hbww.out.trans (hb5.mono Hbww.out.size)
            have hq5 := Hr1.out.below hb50
            have Hb50 := Lib.hid hb50
            have Hq5 := Lib.hid hq5
            clear hq5 hb50
            clear hb5
            go_wp2_with fail
            refine (reflist_any A1 n1 c1 z1 v5 w.heap.size Hq5.out Hl1.out nc1 Hcm1.out (by omega) Hb50.out.size Hw1.out h8).mono ?_
            rintro e v6 ⟨hd2, hb6⟩
            rcases hd2 with ⟨l, s6, hd2, _⟩ | ⟨_, rfl⟩
            · rw [Hd.out] at hd2; cases hd2
            have hb60 := Hb50.out.trans (hb6.mono Hb50.out.size)
            have Hb60 := Lib.hid hb60
            clear hb60
            clear hb6
            go_wp2_with fail
            go_ret
            exact ⟨rfl, Hb60.out⟩
          · obtain ⟨hll, hlg⟩ := decM_all (n1 / 8) z1 l hd Hw1.out
            have hen := decM_enc (n1 / 8) z1 l hd (by rw [Hl1.out]; omega) Hw1.out
            have hag : l.all goodP = true := List.all_eq_true.2 fun i hi => (hlg i hi).2
            obtain ⟨m, hm⟩ : ∃ m, n1 / 8 = m := ⟨_, rfl⟩
            have hm8 : n1 = 8 * m := by omega
            rw [hm] at hd hll
            have hm1 : m ≤ 1048576 := by omega
            have Hd := Lib.hid hd
            have Hll := Lib.hid hll
            have Hlg := Lib.hid hlg
            have Hen := Lib.hid hen
            have Hag := Lib.hid hag
            have Hm := Lib.hid hm
            have Hm8 := Lib.hid hm8
            clear hm8 hm hag hen hlg hll hd
            go_wp2_with fail
            refine (decode_any A1 n1 c1 z1 wr w.heap.size Hq1.out Hl1.out nc1 Hcm1.out (by omega) Hsw.out Hw1.out h8).mono ?_
            rintro e v5 ⟨hd1, hb5⟩
            rw [Hm.out] at hd1
            rcases hd1 with ⟨l', s5, hd1, rfl, hown5⟩ | ⟨hd1, _⟩
            case inr => rw [Hd.out] at hd1; cases hd1
            rw [Hd.out] at hd1
            injection hd1 with hd1
            subst hd1
            obtain ⟨A5, c5, rfl, hn5, hc5, hr5⟩ := own_any hown5
            have hb50 := Hbww.out.trans (hb5.mono Hbww.out.size)
            have hq5 := Hr1.out.below hb50
            have Hb50 := Lib.hid hb50
            have Hq5 := Lib.hid hq5
            have Hr5 := Lib.hid hr5
            clear hr5 hq5 hb50
            clear hown5 hb5
            go_wp2_with fail
            refine (reflist_any A1 n1 c1 z1 v5 w.heap.size Hq5.out Hl1.out nc1 Hcm1.out (by omega) Hb50.out.size Hw1.out h8).mono ?_
            rintro e v6 ⟨hd2, hb6⟩
            rw [Hm.out] at hd2
            rcases hd2 with ⟨l', s6, hd2, rfl, hown6⟩ | ⟨hd2, _⟩
            case inr => rw [Hd.out] at hd2; cases hd2
            rw [Hd.out] at hd2
            injection hd2 with hd2
            subst hd2
            obtain ⟨A6, c6, rfl, hn6, hc6, hr6⟩ := own_any hown6
            have hb60 := Hb50.out.trans (hb6.mono Hb50.out.size)
            have hr56 := Hr5.out.below hb6
            have hs56 := hb6.size
            have Hb60 := Lib.hid hb60
            have Hr6 := Lib.hid hr6
            have Hr56 := Lib.hid hr56
            clear hr56 hr6 hb60
            clear hown6 hb6
            go_wp2_with fail
            refine (encode_any A5 m c5 l v6 v5.heap.size Hr56.out Hll.out (by omega) hs56 (fun i hi => (Hlg.out i hi).1)).mono ?_
            rintro e v7 ⟨hres7, hb7⟩
            rcases hres7 with ⟨_, s7, rfl, hown7⟩ | ⟨hno, _⟩
            case inr => rw [Hag.out] at hno; cases hno
            obtain ⟨A7, c7, rfl, hn7, hc7, hr7⟩ := own_any hown7
            have hb70 := Hb60.out.trans (hb7.mono Hb60.out.size)
            have hr57 := (Hr56.out.below (hb7.mono hs56))
            have hr67 := Hr6.out.below hb7
            rw [Hen.out] at hr7
            have hcv7 := conv_readsS v7 (c := c7) hr7
            have hcv8 := conv_readsS v7 (c := c1) (Hr1.out.below hb70)
            rw [← Hm8.out] at hcv7
            have Hb70 := Lib.hid hb70
            have Hr57 := Lib.hid hr57
            have Hr67 := Lib.hid hr67
            clear hr67 hr57 hb70
            clear hown7 hb7 hr7
            rw [← Hm8.out]
            go_wp2_with fail
            clear hcv7 hcv8
            go_loopw [105] (fun i wq => ∃ k : Nat, k ≤ m ∧ i = .int .i64 k ∧ ∃ q, wq = v7.drewN q) (fun i _ => m - (intOf i).toNat)
            case atStart => exact ⟨0, by omega, rfl, 0, rfl⟩
            case round =>
              obtain ⟨k9, hk9, rfl, q, hwr⟩ := hrel
              subst hwr
              by_cases hlt9 : k9 < m
              · obtain ⟨i, hik⟩ : ∃ i, l[k9]? = some i := ⟨_, List.getElem?_eq_getElem (by have := Hll.out; omega)⟩
                obtain ⟨ad5, hA5, _, _⟩ := Hr57.out.2 (by omega)
                subst hA5
                obtain ⟨ad6, hA6, _, _⟩ := Hr67.out.2 (by omega)
                subst hA6
                obtain ⟨e0, e1, e2, e3, e4⟩ := mi_cells (Hr57.out.drewN q) hik (by omega)
                obtain ⟨f0, f1, f2, f3, f4⟩ := mi_cells (Hr67.out.drewN q) hik (by omega)
                have Hik := Lib.hid hik
                clear hik
                obtain ⟨op, d, a, b, imm⟩ := i
                simp only at e0 e1 e2 e3 e4 f0 f1 f2 f3 f4
                have hk5 : (k9 : Int) < m := by omega
                go_upto_region 27 with fail
                refine wp_region_noPanic ?_
                refine wp_region_held_drew (S := fun W => W.cell? (ad5.add (k9 * 5)) = some (.int .u8 op) ∧ W.cell? ⟨(ad5.add (k9 * 5)).block, (ad5.add (k9 * 5)).off + 1, none⟩ = some (.int .i64 d) ∧ W.cell? ⟨(ad5.add (k9 * 5)).block, (ad5.add (k9 * 5)).off + 2, none⟩ = some (.int .i64 a) ∧ W.cell? ⟨(ad5.add (k9 * 5)).block, (ad5.add (k9 * 5)).off + 3, none⟩ = some (.int .i64 b) ∧ W.cell? ⟨(ad5.add (k9 * 5)).block, (ad5.add (k9 * 5)).off + 4, none⟩ = some (.int .i32 imm) ∧ W.cell? (ad6.add (k9 * 5)) = some (.int .u8 op) ∧ W.cell? ⟨(ad6.add (k9 * 5)).block, (ad6.add (k9 * 5)).off + 1, none⟩ = some (.int .i64 d) ∧ W.cell? ⟨(ad6.add (k9 * 5)).block, (ad6.add (k9 * 5)).off + 2, none⟩ = some (.int .i64 a) ∧ W.cell? ⟨(ad6.add (k9 * 5)).block, (ad6.add (k9 * 5)).off + 3, none⟩ = some (.int .i64 b) ∧ W.cell? ⟨(ad6.add (k9 * 5)).block, (ad6.add (k9 * 5)).off + 4, none⟩ = some (.int .i32 imm)) (by kernel_rfl) ⟨e0, e1, e2, e3, e4, f0, f1, f2, f3, f4⟩ (fun hHeld => ?_)
                refine wpAnyH_take (i := 0) (v := ?_) rfl (by kernel_rfl) (by kernel_rfl) (by kernel_rfl) (fun _ _ _ h => h) (Or.inl ⟨by rfl, ?_⟩) (by assumption) ?_
                rotate_left
                · intro w hSw; (try dsimp only at hSw); go_simp; try with_reducible rfl
                simp only [Act.put, List.getElem_toArray, List.getElem_cons_zero, List.getElem_cons_succ, List.setIfInBounds_toArray, List.set_cons_zero, List.set_cons_succ]
                refine wpAnyH_take (i := 1) (v := ?_) rfl (by kernel_rfl) (by kernel_rfl) (by kernel_rfl) (fun _ _ _ h => h) (Or.inl ⟨by rfl, ?_⟩) (by assumption) ?_
                rotate_left
                · intro w hSw; (try dsimp only at hSw); go_simp; try with_reducible rfl
                simp only [Act.put, List.getElem_toArray, List.getElem_cons_zero, List.getElem_cons_succ, List.setIfInBounds_toArray, List.set_cons_zero, List.set_cons_succ]
                refine wpAnyH_take (i := 2) (v := ?_) rfl (by kernel_rfl) (by kernel_rfl) (by kernel_rfl) (fun _ _ _ h => h) (Or.inl ⟨by rfl, ?_⟩) (by assumption) ?_
                rotate_left
                · intro w hSw; (try dsimp only at hSw); go_simp; try with_reducible rfl
                simp only [Act.put, List.getElem_toArray, List.getElem_cons_zero, List.getElem_cons_succ, List.setIfInBounds_toArray, List.set_cons_zero, List.set_cons_succ]
                refine wpAnyH_take (i := 3) (v := ?_) rfl (by kernel_rfl) (by kernel_rfl) (by kernel_rfl) (fun _ _ _ h => h) (Or.inl ⟨by rfl, ?_⟩) (by assumption) ?_
                rotate_left
                · intro w hSw; (try dsimp only at hSw); go_simp; try with_reducible rfl
                simp only [Act.put, List.getElem_toArray, List.getElem_cons_zero, List.getElem_cons_succ, List.setIfInBounds_toArray, List.set_cons_zero, List.set_cons_succ]
                refine wpAnyH_take (i := 4) (v := ?_) rfl (by kernel_rfl) (by kernel_rfl) (by kernel_rfl) (fun _ _ _ h => h) (Or.inl ⟨by rfl, ?_⟩) (by assumption) ?_
                rotate_left
                · intro w hSw; (try dsimp only at hSw); go_simp; try with_reducible rfl
                simp only [Act.put, List.getElem_toArray, List.getElem_cons_zero, List.getElem_cons_succ, List.setIfInBounds_toArray, List.set_cons_zero, List.set_cons_succ]
                refine wpAnyH_take (i := 5) (v := ?_) rfl (by kernel_rfl) (by kernel_rfl) (by kernel_rfl) (fun _ _ _ h => h) (Or.inl ⟨by rfl, ?_⟩) (by assumption) ?_
                rotate_left
                · intro w hSw; (try dsimp only at hSw); go_simp; try with_reducible rfl
                simp only [Act.put, List.getElem_toArray, List.getElem_cons_zero, List.getElem_cons_succ, List.setIfInBounds_toArray, List.set_cons_zero, List.set_cons_succ]
                refine wpAnyH_take (i := 6) (v := ?_) rfl (by kernel_rfl) (by kernel_rfl) (by kernel_rfl) (fun _ _ _ h => h) (Or.inl ⟨by rfl, ?_⟩) (by assumption) ?_
                rotate_left
                · intro w hSw; (try dsimp only at hSw); go_simp; try with_reducible rfl
                simp only [Act.put, List.getElem_toArray, List.getElem_cons_zero, List.getElem_cons_succ, List.setIfInBounds_toArray, List.set_cons_zero, List.set_cons_succ]
                refine wpAnyH_take (i := 7) (v := ?_) rfl (by kernel_rfl) (by kernel_rfl) (by kernel_rfl) (fun _ _ _ h => h) (Or.inl ⟨by rfl, ?_⟩) (by assumption) ?_
                rotate_left
                · intro w hSw; (try dsimp only at hSw); go_simp; try with_reducible rfl
                simp only [Act.put, List.getElem_toArray, List.getElem_cons_zero, List.getElem_cons_succ, List.setIfInBounds_toArray, List.set_cons_zero, List.set_cons_succ]
                refine wpAnyH_take (i := 8) (v := ?_) rfl (by kernel_rfl) (by kernel_rfl) (by kernel_rfl) (fun _ _ _ h => h) (Or.inl ⟨by rfl, ?_⟩) (by assumption) ?_
                rotate_left
                · intro w hSw; (try dsimp only at hSw); go_simp; try with_reducible rfl
                simp only [Act.put, List.getElem_toArray, List.getElem_cons_zero, List.getElem_cons_succ, List.setIfInBounds_toArray, List.set_cons_zero, List.set_cons_succ]
                refine wpAnyH_done (by kernel_rfl) ?_ _
                refine NoPanic.normal ?_
                rw [show (v7.drewN q).drew = v7.drewN (q + 1) from rfl]
                go_wp2_with fail
                exact ⟨⟨k9 + 1, by omega, by go_num, _, rfl⟩, by simp [intOf]; omega⟩
              · go_wp2_with fail
                go_ret
                exact ⟨rfl, below_drewN Hb70.out q⟩
        · go_wp2_with fail
          refine (decode_odd A1 n1 c1 _ (by unfold maxLen; omega) h8).mono ?_
          rintro e v5 ⟨rfl, rfl⟩
          go_wp2_with fail
          refine (reflist_odd A1 n1 c1 _ (by unfold maxLen; omega) h8).mono ?_
          rintro e v6 ⟨rfl, rfl⟩
          go_wp2_with fail
          go_ret
          exact ⟨rfl, Hbww.out⟩
end Go.Proofs.Ytnnlhhokljjghaa
