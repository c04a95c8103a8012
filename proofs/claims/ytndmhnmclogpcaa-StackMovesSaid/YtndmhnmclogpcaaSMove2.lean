/- Walk of the document's Move of a stack. Conditions: the machine and the lists lie in memory. -/
import Derived.Test.YtndmhnmclogpcaaSMove
import Derived.Test.YtndmhnmclogpcaaMove2
import Derived.Test.YtndmhnmclogpcaaSMoveP
set_option linter.unusedVariables false
set_option linter.unusedSimpArgs false
namespace Go.Proofs.Ytndmhnmclogpcaa
open Go.RowKit

section
variable {w : World} {lo q rg wg : Nat} {cv : Value} {regs : List Int} {pc base : Int} {ws : List Int}
theorem RefAt.setBase (h : RefAt w lo q rg wg cv regs pc base ws) {b' : Int} (hb : 8 ≤ b' ∧ b' ≤ 281474976710656 ∧ b' % 8 = 0) : RefAt (w.setCell ⟨q, 3, none⟩ (.int .u64 b')) lo q rg wg cv regs pc b' ws := by
  obtain ⟨n1, n2, n3⟩ := h.ne
  refine ⟨?_, h.rblk.far (p := ⟨q, 3, none⟩) (Ne.symm n1) _, h.wblk.far (p := ⟨q, 3, none⟩) (Ne.symm n2) _, h.low, h.ne, h.len, h.u64, h.pcI, h.wok, ⟨hb.1, hb.2.1, hb.2.2, h.fit.2.2.2⟩⟩
  have := h.blk.set_ 3 (.int .u64 b')
  simpa using this
theorem RefAt.setWords {g : Nat} {ws' : List Int} (h : RefAt w lo q rg wg cv regs pc base ws) (hB : Blk w g 29 (ws'.map (Value.int .u64)).toArray) (hg : lo ≤ g) (hne : rg ≠ g) (hw : ∀ x ∈ ws', U64 x) (h8 : 8 * ws'.length ≤ 65536) : RefAt (w.setCell ⟨q, 4, none⟩ (.slice (some ⟨g, 0, none⟩) ws'.length ws'.length)) lo q rg g cv regs pc base ws' := by
  obtain ⟨n1, n2, n3⟩ := h.ne
  have hqg : q ≠ g := h.blk.ne_ hB (by decide)
  refine ⟨?_, h.rblk.far (p := ⟨q, 4, none⟩) (Ne.symm n1) _, hB.far (p := ⟨q, 4, none⟩) (Ne.symm hqg) _, ⟨h.low.1, h.low.2.1, hg⟩, ⟨n1, hqg, hne⟩, h.len, h.u64, h.pcI, hw, ⟨h.fit.1, h.fit.2.1, h.fit.2.2.1, h8⟩⟩
  have := h.blk.set_ 4 (.slice (some ⟨g, 0, none⟩) ws'.length ws'.length)
  simpa using this
end
theorem RefAt.drew {w : World} {lo q rg wg : Nat} {cv : Value} {regs : List Int} {pc base : Int} {ws : List Int} (h : RefAt w lo q rg wg cv regs pc base ws) : RefAt w.drew lo q rg wg cv regs pc base ws := h.drewN 1
set_option maxRecDepth 100000 in
set_option maxHeartbeats 8000000 in
theorem rmove_any {w : World} {lo q rg wg : Nat} {cv : Value} {regs : List Int} {pc base : Int} {ws : List Int} (h : RefAt w lo q rg wg cv regs pc base ws) (base' : Int) (N : Nat) (hb' : U64 base') (m U : Nat) (hmU : ws.length = m + U) (hsm : regs.getD 14 0 = base + 8 * m) (hUN : 8 * U ≤ N) (hmay : MayP base' N)
    (y : Int) (hy : y = IntKind.u64.wrap (base' + N - (base + 8 * ws.length)))
    (B : Nat) (hB : B ≤ w.heap.size) (WA : Option Addr) (wn wc : Nat) (words : List Int) (hW : Reads w B 1 WA wn (words.map (Value.int .u64))) (hwl : words.length = wn) (hwn : wn ≤ wc) (hwc : wn ≤ 140737488351232) (hwu : ∀ a ∈ words, U64 a) (hBq : B ≤ lo)
    (RA : Option Addr) (rn rc : Nat) (rs : List Int) (hR : Reads w B 1 RA rn (rs.map (Value.int .i64))) (hrl : rs.length = rn) (hrn : rn ≤ rc) (hrc : rn ≤ 140737488351232) :
    Calls Try.prog 18 #[.pointer (some ⟨q, 0, none⟩), .int .u64 base', .int .i64 N, .slice WA wn wc, .slice RA rn rc] w fun e w' =>
      (MoveAll (regs.getD 14 0) (base + 8 * ws.length) words rs base' N ∧ e = .returned (.int .i64 0) ∧ ∃ wg', RefAt w' lo q rg wg' cv (regsW base (base + 8 * ws.length) y rs regs (regs.getD 14 0)) pc base' (movedW base (base + 8 * ws.length) y words ws m ((N - 8 * U) / 8)) ∧ Keeps (RefS q rg wg) w w') ∨
      (¬ MoveAll (regs.getD 14 0) (base + 8 * ws.length) words rs base' N ∧ e = .returned (.int .i64 2) ∧ Below w.heap.size w w') := by
  obtain ⟨i0, hi0, hz0, hz1, hz2⟩ := info_parts infoU64r
  obtain ⟨sp, hsp⟩ : ∃ sp, regs[14]? = some sp := ⟨_, List.getElem?_eq_getElem (by rw [h.len]; omega)⟩
  have hgs : regs.getD 14 0 = sp := by rw [List.getD_eq_getElem?_getD, hsp, Option.getD_some]
  obtain ⟨f1, f2, f3, f4⟩ := h.fit
  obtain ⟨b0, b1⟩ := id hb'
  have kb := h.base_
  have kw := h.words_
  have kr := h.regs_
  have k14 : w.cell? ⟨rg, 14, none⟩ = some (.int .u64 sp) := h.reg hsp
  obtain ⟨n, hn⟩ : ∃ n, ws.length = n := ⟨_, rfl⟩
  rw [hgs] at hsm ⊢
  rw [hn] at kw f4 hmU hy ⊢
  obtain ⟨E, hE⟩ : ∃ E, base + 8 * (n : Int) = E := ⟨_, rfl⟩
  rw [hE] at hy ⊢
  obtain ⟨r, hr⟩ : ∃ r, sp.tmod 8 = r := ⟨_, rfl⟩
  have hr0 : (r != 0) = false := by
    have : r = sp % 8 := by rw [← hr, Int.tmod_eq_emod_of_nonneg (by omega)]
    simp; omega
  obtain ⟨m4, m5, m6⟩ := hmay.2.2.2
  have g1 : ¬ sp < base := by omega
  have g2 : ¬ E < sp := by omega
  have g4 : ¬ (N : Int) < E - sp := by omega
  have hs0 : 0 ≤ sp := by omega
  have hs1 : sp ≤ 281474976780000 := by omega
  have hE1 : E ≤ 281474976780000 := by omega
  have hE0 : 0 ≤ E := by omega
  have Hmay := Lib.hid hmay
  have Hm6 := Lib.hid m6
  have Hf3 := Lib.hid f3
  have H := Lib.hid h
  have Hn := Lib.hid hn
  have Hgs := Lib.hid hgs
  have Hsp := Lib.hid hsp
  have Hb' := Lib.hid hb'
  have Hsm := Lib.hid hsm
  have HmU := Lib.hid hmU
  have Hy := Lib.hid hy
  have HW := Lib.hid hW
  have HR := Lib.hid hR
  have Hwl := Lib.hid hwl
  have Hrl := Lib.hid hrl
  have Hwu := Lib.hid hwu
  have HBq := Lib.hid hBq
  clear hBq hwu hrl hwl hR hW hy hmU hsm hb' hsp hgs hn h f3 m6 hmay
  go_enter Try.func18, Try.ntmps18
  go_upto_region 1 with fail
  go_quiet (fail)
  go_wp2_with fail
  refine (rmay_yes _ base' N Hmay.out).mono ?_
  rintro e w1 ⟨rfl, rfl⟩
  go_wp2_with fail
  obtain ⟨W1, hW1⟩ : ∃ W1, W1 = w.drewN nq := ⟨_, rfl⟩
  have hC1 := H.out.drewN nq
  have hb1' := below_drewN (Below.refl w.heap.size w) nq
  rw [← hW1] at hC1 hb1' ⊢
  clear kb kw kr k14
  have HW1 := Lib.hid hW1
  have HC1 := Lib.hid hC1
  have Hb1' := Lib.hid hb1'
  clear hb1' hC1 hW1
  go_loopw [78] (fun i wq => ∃ j : Nat, j ≤ wn ∧ i = .int .i64 j ∧ wq = W1 ∧ Hid (∀ a ∈ words.take j, okA sp E a)) (fun i _ => wn - (intOf i).toNat)
  case atStart => exact ⟨0, by omega, rfl, rfl, (show ∀ a ∈ words.take 0, okA sp E a from fun a ha => by simp at ha)⟩
  case round =>
    obtain ⟨j, hj, rfl, hwr, hok⟩ := hrel
    subst hwr
    by_cases hjn : j < wn
    · obtain ⟨ad, u0, hA, _, hu0, hce⟩ := (HW.out.below (Hb1'.out.mono hB)).at_ hjn
      subst hA
      obtain ⟨a, hak, rfl⟩ : ∃ a, words[j]? = some a ∧ u0 = .int .u64 a := by
        rw [List.getElem?_map, Option.map_eq_some_iff] at hu0
        obtain ⟨x, h1, h2⟩ := hu0
        exact ⟨x, h1, h2.symm⟩
      obtain ⟨ra, hra⟩ : ∃ ra, a.tmod 8 = ra := ⟨_, rfl⟩
      obtain ⟨a0, a1⟩ := Hwu.out a (List.mem_of_getElem? hak)
      have hra8 : ra = a % 8 := by rw [← hra, Int.tmod_eq_emod_of_nonneg a0]
      have hmem := List.mem_of_getElem? hak
      by_cases hoka : okA sp E a
      · have h1 : (ra != 0) = false := by simp; have := hoka.1; omega
        have h2 : ¬ a < sp := by have := hoka.2.1; omega
        have h3 : ¬ E ≤ a := by have := hoka.2.2; omega
        have hok2 : ∀ b ∈ words.take (j + 1), okA sp E b := by
          intro b hb
          rw [List.take_add_one, hak] at hb
          rcases List.mem_append.1 hb with hb | hb
          · exact hok.out b hb
          · simp at hb; rw [hb]; exact hoka
        have Hra8 := Lib.hid hra8
        have Hoka := Lib.hid hoka
        have Hak := Lib.hid hak
        have Hok2 := Lib.hid hok2
        have Hmem := Lib.hid hmem
        clear hmem hok2 hak hoka hra8
        clear hu0
        go_wp2_with fail
        exact ⟨⟨j + 1, by omega, by go_num, trivial, Lib.hid Hok2.out⟩, by simp [intOf]; omega⟩
      · have hno : ¬ MoveAll sp E words rs base' N := fun hh => hoka (hh.1 a hmem)
        have hcase : (ra != 0) = true ∨ ((ra != 0) = false ∧ a < sp) ∨ ((ra != 0) = false ∧ ¬ a < sp ∧ E ≤ a) := by
          unfold okA at hoka
          by_cases c1 : ra = 0
          · by_cases c2 : a < sp
            · exact .inr (.inl ⟨by simpa using c1, c2⟩)
            · exact .inr (.inr ⟨by simpa using c1, c2, by omega⟩)
          · exact .inl (by simpa using c1)
        have Hra8 := Lib.hid hra8
        have Hoka := Lib.hid hoka
        have Hak := Lib.hid hak
        have Hmem := Lib.hid hmem
        have Hno := Lib.hid hno
        clear hno hmem hak hoka hra8
        clear hu0
        rcases hcase with c1 | ⟨c1, c2⟩ | ⟨c1, c2, c3⟩
        all_goals
          go_wp2_with fail
          go_ret
          exact .inr ⟨Hno.out, rfl, Hb1'.out⟩
    · have hjw : j = wn := by omega
      have hokW : ∀ a ∈ words, okA sp E a := by
        intro a ha
        refine hok.out a ?_
        rw [List.take_of_length_le (by rw [Hwl.out]; omega)]
        exact ha
      have HokW := Lib.hid hokW
      have Hjw := Lib.hid hjw
      clear hjw hokW
      go_wp2_with fail
      go_loopw [98] (fun i wq => ∃ j : Nat, j ≤ rn ∧ i = .int .i64 j ∧ wq = wr ∧ Hid (∀ a ∈ rs.take j, 0 ≤ a ∧ a < 14)) (fun i _ => rn - (intOf i).toNat)
      case atStart => exact ⟨0, by omega, rfl, rfl, (show ∀ a ∈ rs.take 0, 0 ≤ a ∧ a < 14 from fun a ha => by simp at ha)⟩
      case round =>
        obtain ⟨j2, hj2, rfl, hwr2, hok2⟩ := hrel
        subst hwr2
        by_cases hjn2 : j2 < rn
        · obtain ⟨ad, u0, hA, _, hu0, hce⟩ := (HR.out.below (Hb1'.out.mono hB)).at_ hjn2
          subst hA
          obtain ⟨a, hak, rfl⟩ : ∃ a, rs[j2]? = some a ∧ u0 = .int .i64 a := by
            rw [List.getElem?_map, Option.map_eq_some_iff] at hu0
            obtain ⟨x, h1, h2⟩ := hu0
            exact ⟨x, h1, h2.symm⟩
          have hmem := List.mem_of_getElem? hak
          by_cases hr14 : 0 ≤ a ∧ a < 14
          · have h1 : ¬ a < 0 := by omega
            have h2 : ¬ 13 < a := by omega
            have hok3 : ∀ b ∈ rs.take (j2 + 1), 0 ≤ b ∧ b < 14 := by
              intro b hb
              rw [List.take_add_one, hak] at hb
              rcases List.mem_append.1 hb with hb | hb
              · exact hok2.out b hb
              · simp at hb; rw [hb]; exact hr14
            have Hr14 := Lib.hid hr14
            have Hak := Lib.hid hak
            have Hok3 := Lib.hid hok3
            have Hmem := Lib.hid hmem
            clear hmem hok3 hak hr14
            clear hu0
            go_wp2_with fail
            exact ⟨⟨j2 + 1, by omega, by go_num, trivial, Lib.hid Hok3.out⟩, by simp [intOf]; omega⟩
          · have hno : ¬ MoveAll sp E words rs base' N := fun hh => hr14 (hh.2.1 a hmem)
            have hcase : a < 0 ∨ (¬ a < 0 ∧ 13 < a) := by omega
            have Hr14 := Lib.hid hr14
            have Hak := Lib.hid hak
            have Hmem := Lib.hid hmem
            have Hno := Lib.hid hno
            clear hno hmem hak hr14
            clear hu0
            rcases hcase with c1 | ⟨c1, c2⟩
            all_goals
              go_wp2_with fail
              go_ret
              exact .inr ⟨Hno.out, rfl, Hb1'.out⟩
        · have hokR : ∀ a ∈ rs, 0 ≤ a ∧ a < 14 := by
            intro a ha
            refine hok2.out a ?_
            rw [List.take_of_length_le (by rw [Hrl.out]; omega)]
            exact ha
          have hall : MoveAll sp E words rs base' N := ⟨HokW.out, hokR, Hmay.out⟩
          obtain ⟨Z, hZ⟩ : ∃ Z : Nat, N = 8 * Z := ⟨N / 8, by have := Hm6.out; omega⟩
          have hqz : (N : Int).tdiv 8 = Z := by rw [Int.tdiv_eq_ediv_of_nonneg (by omega)]; omega
          have hZ8 : Z ≤ 8192 := by omega
          have hUZ : U ≤ Z := by omega
          have hmk : ∀ W : World, (Instr.makeSlice 32 (.int .i64 (Z : Int)) (.int .i64 (Z : Int))).run Try.prog W = .ok (.slice (some ⟨W.heap.size, 0, none⟩) Z Z) (W.alloc (.cells (madeCells #[.int .u64 0] Z) 29)) := fun W => by
            have h := run_make_rowN (P := Try.prog) 32 29 i0 _ Try.underlying32 hi0 hz0 .i64 .i64 Z Z (Nat.le_refl _) (by rw [hz2]; omega) (by omega) W
            rw [hz1, Nat.mul_one] at h
            exact h
          obtain ⟨T, hT⟩ : ∃ T, IntKind.u64.wrap (base' + (N : Int)) = T := ⟨_, rfl⟩
          have hCa := HC1.out.alloc (.cells (madeCells #[.int .u64 0] Z) 29)
          have hba := Hb1'.out.alloc Hb1'.out.size (.cells (madeCells #[.int .u64 0] Z) 29)
          have hF := Blk.new wr 29 (madeCells #[.int .u64 0] Z)
          obtain ⟨F, hFe⟩ : ∃ F, F = wr.heap.size := ⟨_, rfl⟩
          obtain ⟨V, hV⟩ : ∃ V, V = wr.alloc (.cells (madeCells #[.int .u64 0] Z) 29) := ⟨_, rfl⟩
          have kwa := hCa.words_
          rw [Hn.out] at kwa
          have HokR := Lib.hid hokR
          have Hall := Lib.hid hall
          have HZ := Lib.hid hZ
          have HCa := Lib.hid hCa
          have Hba := Lib.hid hba
          have HF := Lib.hid hF
          clear hF hba hCa hZ hall hokR
          go_wp2_with fail
          have hCv := HCa.out
          have hbv := Hba.out
          have hFv := HF.out
          rw [← hFe] at hFv
          rw [← hV] at hCv hbv hFv ⊢
          rw [made_u64] at hFv
          rw [← hFe]
          have hqF : q < F ∧ rg < F ∧ wg < F := by rw [hFe]; exact ⟨HC1.out.blk.lt, HC1.out.rblk.lt, HC1.out.wblk.lt⟩
          have hwF : w.heap.size ≤ F := by rw [hFe]; exact Hb1'.out.size
          obtain ⟨z, hz⟩ : ∃ z, z = Z - U := ⟨_, rfl⟩
          have HV := Lib.hid hV
          have HFe := Lib.hid hFe
          have HCv := Lib.hid hCv
          have Hbv := Lib.hid hbv
          have HFv := Lib.hid hFv
          have Hz := Lib.hid hz
          clear hz hFv hbv hCv hFe hV
          clear kwa
          go_loopw [121] (fun i wq => ∃ k : Nat, k ≤ n ∧ i = .int .i64 k ∧ Blk wq F 29 ((List.replicate z 0 ++ ((tailW base E y words ws m).take (k - m) ++ List.replicate (U - (k - m)) 0)).map (Value.int .u64)).toArray ∧ RefAt wq lo q rg wg cv regs pc base ws ∧ Below w.heap.size w wq) (fun i _ => n - (intOf i).toNat)
          case atStart =>
            refine ⟨0, by omega, rfl, ?_, HCv.out, Hbv.out⟩
            have := HFv.out
            rw [Nat.zero_sub, List.take_zero, List.nil_append, Nat.sub_zero, List.replicate_append_replicate, show z + U = Z by have := Hz.out; omega]
            exact this
          case round =>
            obtain ⟨k, hk, rfl, hFk, hCk, hbk⟩ := hrel
            by_cases hkn : k < n
            · have kbk := hCk.base_
              have kwk := hCk.words_
              rw [Hn.out] at kwk
              obtain ⟨x, hx⟩ : ∃ x, ws[k]? = some x := ⟨_, List.getElem?_eq_getElem (by rw [Hn.out]; exact hkn)⟩
              have kxk := hCk.word hx
              have hkI : (k : Int) < n := by omega
              by_cases hkm : k < m
              · have h1 : base + 8 * (k : Int) < sp := by have := Hsm.out; omega
                have HFk := Lib.hid hFk
                have HCk := Lib.hid hCk
                have Hbk := Lib.hid hbk
                have Hx := Lib.hid hx
                clear hx hbk hCk hFk
                go_wp2_with fail
                refine ⟨⟨k + 1, by omega, by go_num, ?_, HCk.out, Hbk.out⟩, by simp [intOf]; omega⟩
                have := HFk.out
                rwa [show k + 1 - m = k - m by omega]
              · have h1 : ¬ base + 8 * (k : Int) < sp := by have := Hsm.out; omega
                obtain ⟨i, hi⟩ : ∃ i, k = m + i := ⟨k - m, by omega⟩
                have hiU : i < U := by have := HmU.out; omega
                have htl : (tailW base E y words ws m)[i]? = some (mvW base E y words (base + 8 * (k : Int)) x) := by
                  rw [tail_get, if_pos (by rw [Hn.out]; have := HmU.out; omega), ← hi, List.getD_eq_getElem?_getD, hx]
                  rfl
                obtain ⟨L, hL⟩ : ∃ L, (List.replicate z 0 ++ ((tailW base E y words ws m).take (k - m) ++ List.replicate (U - (k - m)) 0)) = L := ⟨_, rfl⟩
                obtain ⟨L', hL'⟩ : ∃ L', (List.replicate z 0 ++ ((tailW base E y words ws m).take (k + 1 - m) ++ List.replicate (U - (k + 1 - m)) 0)) = L' := ⟨_, rfl⟩
                have hset : ∀ v, mvW base E y words (base + 8 * (k : Int)) x = v → L.set (z + i) v = L' := fun v hv => by
                  rw [← hL, ← hL', show k - m = i by omega, show k + 1 - m = i + 1 by omega]
                  exact fresh_step hiU (hv ▸ htl)
                have hx9 := hCk.wok x (List.mem_of_getElem? hx)
                obtain ⟨x0, x1⟩ := id hx9
                rw [hL] at hFk
                have HFk := Lib.hid hFk
                have HCk := Lib.hid hCk
                have Hbk := Lib.hid hbk
                have Hx := Lib.hid hx
                have HL := Lib.hid hL
                have HL' := Lib.hid hL'
                have Hset := Lib.hid hset
                have Htl := Lib.hid htl
                have Hi := Lib.hid hi
                have Hx9 := Lib.hid hx9
                clear hx9 hi htl hset hL' hL hx hbk hCk hFk
                go_wp2_with fail
                obtain ⟨at_, hat⟩ : ∃ at_, base + 8 * (k : Int) = at_ := ⟨_, rfl⟩
                rw [hat] at h1 ⊢
                rw [hat] at Hset
                have Hat := Lib.hid hat
                clear hat
                clear kbk kwk kxk
                go_loopw [21, 144] (fun v i wq => ∃ j : Nat, j ≤ wn ∧ i = .int .i64 j ∧ v = .int .u64 (mvW base E y (words.take j) at_ x) ∧ Blk wq F 29 (L.map (Value.int .u64)).toArray ∧ RefAt wq lo q rg wg cv regs pc base ws ∧ Below w.heap.size w wq) (fun _ i _ => wn - (intOf i).toNat)
                case atStart => exact ⟨0, by omega, rfl, by simp [mvW], HFk.out, HCk.out, Hbk.out⟩
                case round =>
                  obtain ⟨j, hj, rfl, rfl, hF4, hC4, hb4⟩ := hrel
                  by_cases hjn : j < wn
                  · obtain ⟨ad, u0, hA, _, hu0, hce⟩ := (HW.out.below (hb4.mono hB)).at_ hjn
                    subst hA
                    obtain ⟨a, hak, rfl⟩ : ∃ a, words[j]? = some a ∧ u0 = .int .u64 a := by
                      rw [List.getElem?_map, Option.map_eq_some_iff] at hu0
                      obtain ⟨x, h1, h2⟩ := hu0
                      exact ⟨x, h1, h2.symm⟩
                    have htake : words.take (j + 1) = words.take j ++ [a] := by rw [List.take_add_one, hak]; rfl
                    have hmore := mvW_more (base := base) (E := E) (y := y) (a := at_) (v := x) (S := words.take j) (b := a)
                    rw [← htake] at hmore
                    obtain ⟨v0, hv0⟩ : ∃ v0, mvW base E y (words.take j) at_ x = v0 := ⟨_, rfl⟩
                    rw [hv0] at hmore ⊢
                    have kb4 := hC4.base_
                    have kw4 := hC4.words_
                    rw [Hn.out] at kw4
                    have kx4 := hC4.word Hx.out
                    by_cases hhit : a = at_ ∧ base ≤ x ∧ x < E
                    · rw [if_pos hhit] at hmore
                      obtain ⟨c0, c1, c2⟩ := hhit
                      have b0 : (a == at_) = true := by rw [beq_iff_eq]; exact c0
                      obtain ⟨vy, hvy⟩ : ∃ vy, IntKind.u64.wrap (x + y) = vy := ⟨_, rfl⟩
                      obtain ⟨d, hd⟩ : ∃ d, IntKind.u64.wrap (x - E) = d := ⟨_, rfl⟩
                      have hdT : IntKind.u64.wrap (d + T) = vy := by rw [← hd, ← hT, ← hvy]; exact moved_word x E _ y Hy.out
                      rw [hvy] at hmore
                      have HF4 := Lib.hid hF4
                      have HC4 := Lib.hid hC4
                      have Hb4 := Lib.hid hb4
                      have Hak := Lib.hid hak
                      have Htake := Lib.hid htake
                      have Hmore := Lib.hid hmore
                      have Hv0 := Lib.hid hv0
                      have Hc0 := Lib.hid c0
                      have Hvy := Lib.hid hvy
                      clear hvy c0 hv0 hmore htake hak hb4 hC4 hF4
                      clear hu0
                      go_upto_region 28 with fail
                      go_quiet (fail)
                      go_wp2_with fail
                      exact ⟨⟨j + 1, by omega, by go_num, by rw [Hmore.out], HF4.out.drewN nq, HC4.out.drewN nq, below_drewN Hb4.out nq⟩, by simp [intOf]; omega⟩
                    · rw [if_neg hhit] at hmore
                      have hcase : (a ≠ at_) ∨ (a = at_ ∧ ¬ base ≤ x) ∨ (a = at_ ∧ base ≤ x ∧ ¬ x < E) := by omega
                      have HF4 := Lib.hid hF4
                      have HC4 := Lib.hid hC4
                      have Hb4 := Lib.hid hb4
                      have Hak := Lib.hid hak
                      have Htake := Lib.hid htake
                      have Hmore := Lib.hid hmore
                      have Hv0 := Lib.hid hv0
                      have Hhit := Lib.hid hhit
                      clear hhit hv0 hmore htake hak hb4 hC4 hF4
                      clear hu0
                      rcases hcase with c0 | ⟨c0, c1⟩ | ⟨c0, c1, c2⟩
                      · have hD : (a == at_) = false ∧ True := by simp only [beq_iff_eq, beq_eq_false_iff_ne, ne_eq, and_true]; omega
                        have Hc0 := Lib.hid c0
                        clear c0
                        go_upto_region 28 with fail
                        go_quiet (fail)
                        go_wp2_with fail
                        exact ⟨⟨j + 1, by omega, by go_num, by rw [Hmore.out], HF4.out.drewN nq, HC4.out.drewN nq, below_drewN Hb4.out nq⟩, by simp [intOf]; omega⟩
                      · have hD : (a == at_) = true ∧ ¬ base ≤ x := by simp only [beq_iff_eq, beq_eq_false_iff_ne, ne_eq, and_true]; omega
                        have Hc0 := Lib.hid c0
                        clear c0
                        go_upto_region 28 with fail
                        go_quiet (fail)
                        go_wp2_with fail
                        exact ⟨⟨j + 1, by omega, by go_num, by rw [Hmore.out], HF4.out.drewN nq, HC4.out.drewN nq, below_drewN Hb4.out nq⟩, by simp [intOf]; omega⟩
                      · have hD : (a == at_) = true ∧ base ≤ x ∧ ¬ x < E := by simp only [beq_iff_eq, beq_eq_false_iff_ne, ne_eq, and_true]; omega
                        have Hc0 := Lib.hid c0
                        clear c0
                        go_upto_region 28 with fail
                        go_quiet (fail)
                        go_wp2_with fail
                        exact ⟨⟨j + 1, by omega, by go_num, by rw [Hmore.out], HF4.out.drewN nq, HC4.out.drewN nq, below_drewN Hb4.out nq⟩, by simp [intOf]; omega⟩
                  · have hjw : words.take j = words := List.take_of_length_le (by rw [Hwl.out]; omega)
                    rw [hjw]
                    have hxo := Hset.out _ rfl
                    obtain ⟨vz, hvz⟩ : ∃ vz, mvW base E y words at_ x = vz := ⟨_, rfl⟩
                    rw [hvz] at hxo ⊢
                    obtain ⟨o, ho⟩ : ∃ o : Nat, o = z + i := ⟨_, rfl⟩
                    rw [← ho] at hxo
                    have hok : (Z : Int) - n + k = o := by have := Hz.out; have := Hi.out; have := HmU.out; omega
                    have hoZ : o < Z := by have := Hz.out; omega
                    have hF5 := hF4.set_ o (.int .u64 vz)
                    have hL5 : (L.map (Value.int .u64)).toArray.setIfInBounds o (.int .u64 vz) = (L'.map (Value.int .u64)).toArray := by rw [← hxo]; simp [List.map_set]
                    rw [hL5] at hF5
                    have hqF' := hqF
                    have hC5 := hC4.keep (S := fun g => g = F) ((Keeps.refl (fun g => g = F) wr).setCell (p := ⟨F, o, none⟩) (.inl rfl) (.int .u64 vz)) (by omega) (by omega) (by omega)
                    have hb5 := hb4.setCell (p := ⟨F, o, none⟩) hwF (.int .u64 vz)
                    have hlL : L.length = Z := by
                      have h1 := HL.out
                      rw [← h1]
                      simp only [List.length_append, List.length_replicate, List.length_take, tail_length]
                      have := Hz.out; have := Hi.out; have := HmU.out; have := Hn.out
                      omega
                    obtain ⟨u5, hu5⟩ : ∃ u5, (L.map (Value.int .u64)).toArray[o]? = some u5 := ⟨_, Array.getElem?_eq_getElem (by simp; omega)⟩
                    have kF5 := hF4.cell o
                    rw [hu5] at kF5
                    have fF5 := hF4.frozen o
                    have kw5 := hC4.words_
                    rw [Hn.out] at kw5
                    have hZ8 : (Z : Int) ≤ 8192 := by omega
                    have HF4 := Lib.hid hF4
                    have HC4 := Lib.hid hC4
                    have Hb4 := Lib.hid hb4
                    have HF5 := Lib.hid hF5
                    have HC5 := Lib.hid hC5
                    have Hb5 := Lib.hid hb5
                    have HL5 := Lib.hid hL5
                    have Hxo := Lib.hid hxo
                    have Hvz := Lib.hid hvz
                    have Ho := Lib.hid ho
                    have Hu5 := Lib.hid hu5
                    have HlL := Lib.hid hlL
                    have Hjw := Lib.hid hjw
                    clear hjw hlL hu5 ho hvz hxo hL5 hb5 hC5 hF5 hb4 hC4 hF4
                    clear hqF'
                    go_wp2_with fail
                    refine ⟨⟨k + 1, by omega, by go_num, ?_, HC5.out, Hb5.out⟩, by simp [intOf]; omega⟩
                    rw [HL'.out]
                    exact HF5.out
            · have hkE : k = n := by omega
              have hnk : ¬ (k : Int) < n := by omega
              obtain ⟨MW, hMW⟩ : ∃ MW, movedW base E y words ws m ((N - 8 * U) / 8) = MW := ⟨_, rfl⟩
              have hF5 : Blk wr F 29 (MW.map (Value.int .u64)).toArray := by
                have h1 := hFk
                rw [hkE, List.take_of_length_le (by rw [tail_length, Hn.out]; omega), show U - (n - m) = 0 by have := HmU.out; omega, List.replicate_zero, List.append_nil, show z = (N - 8 * U) / 8 by have := Hz.out; have := HZ.out; omega] at h1
                rw [← hMW]
                exact h1
              have hk5 : Keeps (RefS q rg wg) w wr := Keeps.of_below hbk (Nat.le_refl _)
              have hC5 : RefAt wr lo q rg wg cv (regsUp base E y rs regs sp 0) pc base ws := by rw [regsUp_zero]; exact hCk
              have HF5 := Lib.hid hF5
              have Hk5 := Lib.hid hk5
              have HC5 := Lib.hid hC5
              have HkE := Lib.hid hkE
              have HMW := Lib.hid hMW
              clear hMW hkE hC5 hk5 hF5
              clear hFk hCk hbk
              go_wp2_with fail
              go_loopw [24] (fun i wq => ∃ r : Nat, r ≤ 14 ∧ i = .int .i64 r ∧ Blk wq F 29 (MW.map (Value.int .u64)).toArray ∧ RefAt wq lo q rg wg cv (regsUp base E y rs regs sp r) pc base ws ∧ Keeps (RefS q rg wg) w wq) (fun i _ => 14 - (intOf i).toNat)
              case atStart => exact ⟨0, by omega, rfl, HF5.out, HC5.out, Hk5.out⟩
              case round =>
                obtain ⟨ri, hri, rfl, hF6, hC6, hk6⟩ := hrel
                by_cases hr14 : ri < 14
                · obtain ⟨x, hx⟩ : ∃ x, regs[ri]? = some x := ⟨_, List.getElem?_eq_getElem (by rw [HC1.out.len]; omega)⟩
                  obtain ⟨x0, x1⟩ := HC1.out.u64 x (List.mem_of_getElem? hx)
                  have hx6 : (regsUp base E y rs regs sp ri)[ri]? = some x := by rw [regsUp_get HC1.out.len ri (Nat.le_refl _) (by omega)]; exact hx
                  have hgx : regs.getD ri 0 = x := by rw [List.getD_eq_getElem?_getD, hx]; rfl
                  have hri6 : (ri : Int) < 14 := by omega
                  have HF6 := Lib.hid hF6
                  have HC6 := Lib.hid hC6
                  have Hk6 := Lib.hid hk6
                  have Hx := Lib.hid hx
                  have Hgx := Lib.hid hgx
                  have Hx6 := Lib.hid hx6
                  clear hx6 hgx hx hk6 hC6 hF6
                  go_wp2_with fail
                  go_loopw [25, 208] (fun nm i wq => ∃ j : Nat, j ≤ rn ∧ i = .int .i64 j ∧ nm = .bool (decide ((ri : Int) ∈ rs.take j)) ∧ wq = wr) (fun _ i _ => rn - (intOf i).toNat)
                  case atStart => exact ⟨0, by omega, rfl, by simp, rfl⟩
                  case round =>
                    obtain ⟨j, hj, rfl, rfl, hwr2⟩ := hrel
                    subst hwr2
                    obtain ⟨nb, hnb⟩ : ∃ nb, decide ((ri : Int) ∈ rs.take j) = nb := ⟨_, rfl⟩
                    rw [hnb]
                    by_cases hjn : j < rn
                    · obtain ⟨ad, u0, hA, _, hu0, hce⟩ := (HR.out.below ((H.out.keepR Hk6.out).mono HBq.out)).at_ hjn
                      subst hA
                      obtain ⟨a, hak, rfl⟩ : ∃ a, rs[j]? = some a ∧ u0 = .int .i64 a := by
                        rw [List.getElem?_map, Option.map_eq_some_iff] at hu0
                        obtain ⟨x, h1, h2⟩ := hu0
                        exact ⟨x, h1, h2.symm⟩
                      have hnext : decide ((ri : Int) ∈ rs.take (j + 1)) = (nb || decide ((ri : Int) = a)) := by
                        rw [List.take_add_one, hak, ← hnb]
                        simp
                      have Hak := Lib.hid hak
                      have Hnext := Lib.hid hnext
                      have Hnb := Lib.hid hnb
                      clear hnb hnext hak
                      clear hu0
                      cases nb
                      · by_cases ha : (ri : Int) = a
                        · have b0 : (a == (ri : Int)) = true := by rw [beq_iff_eq]; exact ha.symm
                          have Ha := Lib.hid ha
                          clear ha
                          go_wp2_with fail
                          exact ⟨⟨j + 1, by omega, by go_num, by rw [Hnext.out]; simp [Ha.out], trivial⟩, by simp [intOf]; omega⟩
                        · have b0 : (a == (ri : Int)) = false := by rw [beq_eq_false_iff_ne]; exact fun e => ha e.symm
                          have Ha := Lib.hid ha
                          clear ha
                          go_wp2_with fail
                          exact ⟨⟨j + 1, by omega, by go_num, by rw [Hnext.out]; simp [Ha.out], trivial⟩, by simp [intOf]; omega⟩
                      · go_wp2_with fail
                        exact ⟨⟨j + 1, by omega, by go_num, by rw [Hnext.out]; simp, trivial⟩, by simp [intOf]; omega⟩
                    · have hjr : ¬ (j : Int) < rn := by omega
                      rw [List.take_of_length_le (by rw [Hrl.out]; omega)] at hnb
                      have kr6 := HC6.out.regs_
                      have kx6 := HC6.out.reg Hx6.out
                      have kb6 := HC6.out.base_
                      by_cases hhit : (ri : Int) ∈ rs ∧ base ≤ x ∧ x < E
                      · obtain ⟨c0, c1, c2⟩ := hhit
                        obtain rfl : nb = true := by rw [← hnb]; simp [c0]
                        have hrw := regW_hit (base := base) (E := E) (y := y) (s := sp) (S := rs) (regs := regs) hr14 c0 (by rw [Hgx.out]; exact c1) (by rw [Hgx.out]; exact c2)
                        obtain ⟨vy, hvy⟩ : ∃ vy, IntKind.u64.wrap (x + y) = vy := ⟨_, rfl⟩
                        obtain ⟨d, hd⟩ : ∃ d, IntKind.u64.wrap (x - E) = d := ⟨_, rfl⟩
                        have hdT : IntKind.u64.wrap (d + T) = vy := by rw [← hd, ← hT, ← hvy]; exact moved_word x E _ y Hy.out
                        rw [Hgx.out, hvy] at hrw
                        have fx6 := HC6.out.rblk.frozen ri
                        have Hvy := Lib.hid hvy
                        have Hrw := Lib.hid hrw
                        have Hc0 := Lib.hid c0
                        have Hnb := Lib.hid hnb
                        clear hnb c0 hrw hvy
                        go_upto_region 42 with fail
                        go_quiet (fail)
                        obtain ⟨W7, hW7⟩ : ∃ W7, W7 = wr.drewN nq := ⟨_, rfl⟩
                        have hF7 := HF6.out.drewN nq
                        have hC7 := HC6.out.drewN nq
                        have hk7 := Hk6.out.drewN nq
                        rw [← hW7] at hF7 hC7 hk7 ⊢
                        have kr7 := hC7.drew.regs_
                        have kx7 := hC7.drew.reg Hx6.out
                        have fx7 := hC7.drew.rblk.frozen ri
                        have HW7 := Lib.hid hW7
                        have HF7 := Lib.hid hF7
                        have HC7 := Lib.hid hC7
                        have Hk7 := Lib.hid hk7
                        clear hk7 hC7 hF7 hW7
                        clear kr6 kx6 kb6 fx6
                        have h16 : (ri : Int) < 16 := by omega
                        go_upto_region 43 with fail
                        refine wp_region_late (S := fun W => W.cell? ⟨q, 1, none⟩ = some (.slice (some ⟨rg, 0, none⟩) 16 16) ∧ W.cell? ⟨rg, ri, none⟩ = some (.int .u64 x)) #[false, false, false, false, false, false, false, false, false, false, false, false, false, false, false, false, false, true] (by kernel_rfl) ⟨kr7, kx7⟩ (fun hHeld => ?_)
                        refine wpAnyL_take (i := 0) (v := ?_) rfl (by kernel_rfl) (by kernel_rfl) (by kernel_rfl) (by kernel_rfl) (fun _ _ _ h => h) (Or.inl ⟨by rfl, ?_⟩) (by assumption) ?_
                        rotate_left
                        · intro w hSw; (try dsimp only at hSw); go_simp; try with_reducible rfl
                        simp only [Act.put, List.getElem_toArray, List.getElem_cons_zero, List.getElem_cons_succ, List.setIfInBounds_toArray, List.set_cons_zero, List.set_cons_succ]
                        refine wpAnyL_take (i := 1) (v := ?_) rfl (by kernel_rfl) (by kernel_rfl) (by kernel_rfl) (by kernel_rfl) (fun _ _ _ h => h) (Or.inl ⟨by rfl, ?_⟩) (by assumption) ?_
                        rotate_left
                        · intro w hSw; (try dsimp only at hSw); go_simp; try with_reducible rfl
                        simp only [Act.put, List.getElem_toArray, List.getElem_cons_zero, List.getElem_cons_succ, List.setIfInBounds_toArray, List.set_cons_zero, List.set_cons_succ]
                        refine wpAnyL_take (i := 2) (v := ?_) rfl (by kernel_rfl) (by kernel_rfl) (by kernel_rfl) (by kernel_rfl) (fun _ _ _ h => h) (Or.inl ⟨by rfl, ?_⟩) (by assumption) ?_
                        rotate_left
                        · intro w hSw; (try dsimp only at hSw); go_simp; try with_reducible rfl
                        simp only [Act.put, List.getElem_toArray, List.getElem_cons_zero, List.getElem_cons_succ, List.setIfInBounds_toArray, List.set_cons_zero, List.set_cons_succ]
                        refine wpAnyL_take (i := 3) (v := ?_) rfl (by kernel_rfl) (by kernel_rfl) (by kernel_rfl) (by kernel_rfl) (fun _ _ _ h => h) (Or.inl ⟨by rfl, ?_⟩) (by assumption) ?_
                        rotate_left
                        · intro w hSw; (try dsimp only at hSw); go_simp; try with_reducible rfl
                        simp only [Act.put, List.getElem_toArray, List.getElem_cons_zero, List.getElem_cons_succ, List.setIfInBounds_toArray, List.set_cons_zero, List.set_cons_succ]
                        refine wpAnyL_take (i := 4) (v := ?_) rfl (by kernel_rfl) (by kernel_rfl) (by kernel_rfl) (by kernel_rfl) (fun _ _ _ h => h) (Or.inl ⟨by rfl, ?_⟩) (by assumption) ?_
                        rotate_left
                        · intro w hSw; (try dsimp only at hSw); go_simp; try with_reducible rfl
                        simp only [Act.put, List.getElem_toArray, List.getElem_cons_zero, List.getElem_cons_succ, List.setIfInBounds_toArray, List.set_cons_zero, List.set_cons_succ]
                        refine wpAnyL_take (i := 5) (v := ?_) rfl (by kernel_rfl) (by kernel_rfl) (by kernel_rfl) (by kernel_rfl) (fun _ _ _ h => h) (Or.inl ⟨by rfl, ?_⟩) (by assumption) ?_
                        rotate_left
                        · intro w hSw; (try dsimp only at hSw); go_simp; try with_reducible rfl
                        simp only [Act.put, List.getElem_toArray, List.getElem_cons_zero, List.getElem_cons_succ, List.setIfInBounds_toArray, List.set_cons_zero, List.set_cons_succ]
                        refine wpAnyL_take (i := 6) (v := ?_) rfl (by kernel_rfl) (by kernel_rfl) (by kernel_rfl) (by kernel_rfl) (fun _ _ _ h => h) (Or.inl ⟨by rfl, ?_⟩) (by assumption) ?_
                        rotate_left
                        · intro w hSw; (try dsimp only at hSw); go_simp; try with_reducible rfl
                        simp only [Act.put, List.getElem_toArray, List.getElem_cons_zero, List.getElem_cons_succ, List.setIfInBounds_toArray, List.set_cons_zero, List.set_cons_succ]
                        refine wpAnyL_take (i := 7) (v := ?_) rfl (by kernel_rfl) (by kernel_rfl) (by kernel_rfl) (by kernel_rfl) (fun _ _ _ h => h) (Or.inl ⟨by rfl, ?_⟩) (by assumption) ?_
                        rotate_left
                        · intro w hSw; (try dsimp only at hSw); go_simp; try with_reducible rfl
                        simp only [Act.put, List.getElem_toArray, List.getElem_cons_zero, List.getElem_cons_succ, List.setIfInBounds_toArray, List.set_cons_zero, List.set_cons_succ]
                        refine wpAnyL_take (i := 8) (v := ?_) rfl (by kernel_rfl) (by kernel_rfl) (by kernel_rfl) (by kernel_rfl) (fun _ _ _ h => h) (Or.inl ⟨by rfl, ?_⟩) (by assumption) ?_
                        rotate_left
                        · intro w hSw; (try dsimp only at hSw); go_simp; try with_reducible rfl
                        simp only [Act.put, List.getElem_toArray, List.getElem_cons_zero, List.getElem_cons_succ, List.setIfInBounds_toArray, List.set_cons_zero, List.set_cons_succ]
                        refine wpAnyL_take (i := 9) (v := ?_) rfl (by kernel_rfl) (by kernel_rfl) (by kernel_rfl) (by kernel_rfl) (fun _ _ _ h => h) (Or.inl ⟨by rfl, ?_⟩) (by assumption) ?_
                        rotate_left
                        · intro w hSw; (try dsimp only at hSw); go_simp; try with_reducible rfl
                        simp only [Act.put, List.getElem_toArray, List.getElem_cons_zero, List.getElem_cons_succ, List.setIfInBounds_toArray, List.set_cons_zero, List.set_cons_succ]
                        refine wpAnyL_take (i := 10) (v := ?_) rfl (by kernel_rfl) (by kernel_rfl) (by kernel_rfl) (by kernel_rfl) (fun _ _ _ h => h) (Or.inl ⟨by rfl, ?_⟩) (by assumption) ?_
                        rotate_left
                        · intro w hSw; (try dsimp only at hSw); go_simp; try with_reducible rfl
                        simp only [Act.put, List.getElem_toArray, List.getElem_cons_zero, List.getElem_cons_succ, List.setIfInBounds_toArray, List.set_cons_zero, List.set_cons_succ]
                        refine wpAnyL_take (i := 11) (v := ?_) rfl (by kernel_rfl) (by kernel_rfl) (by kernel_rfl) (by kernel_rfl) (fun _ _ _ h => h) (Or.inl ⟨by rfl, ?_⟩) (by assumption) ?_
                        rotate_left
                        · intro w hSw; (try dsimp only at hSw); go_simp; try with_reducible rfl
                        simp only [Act.put, List.getElem_toArray, List.getElem_cons_zero, List.getElem_cons_succ, List.setIfInBounds_toArray, List.set_cons_zero, List.set_cons_succ]
                        refine wpAnyL_take (i := 12) (v := ?_) rfl (by kernel_rfl) (by kernel_rfl) (by kernel_rfl) (by kernel_rfl) (fun _ _ _ h => h) (Or.inl ⟨by rfl, ?_⟩) (by assumption) ?_
                        rotate_left
                        · intro w hSw; (try dsimp only at hSw); go_simp; try with_reducible rfl
                        simp only [Act.put, List.getElem_toArray, List.getElem_cons_zero, List.getElem_cons_succ, List.setIfInBounds_toArray, List.set_cons_zero, List.set_cons_succ]
                        refine wpAnyL_take (i := 13) (v := ?_) rfl (by kernel_rfl) (by kernel_rfl) (by kernel_rfl) (by kernel_rfl) (fun _ _ _ h => h) (Or.inl ⟨by rfl, ?_⟩) (by assumption) ?_
                        rotate_left
                        · intro w hSw; (try dsimp only at hSw); go_simp; try with_reducible rfl
                        simp only [Act.put, List.getElem_toArray, List.getElem_cons_zero, List.getElem_cons_succ, List.setIfInBounds_toArray, List.set_cons_zero, List.set_cons_succ]
                        refine wpAnyL_take (i := 14) (v := ?_) rfl (by kernel_rfl) (by kernel_rfl) (by kernel_rfl) (by kernel_rfl) (fun _ _ _ h => h) (Or.inl ⟨by rfl, ?_⟩) (by assumption) ?_
                        rotate_left
                        · intro w hSw; (try dsimp only at hSw); go_simp; try with_reducible rfl
                        simp only [Act.put, List.getElem_toArray, List.getElem_cons_zero, List.getElem_cons_succ, List.setIfInBounds_toArray, List.set_cons_zero, List.set_cons_succ]
                        refine wpAnyL_take (i := 15) (v := ?_) rfl (by kernel_rfl) (by kernel_rfl) (by kernel_rfl) (by kernel_rfl) (fun _ _ _ h => h) (Or.inl ⟨by rfl, ?_⟩) (by assumption) ?_
                        rotate_left
                        · intro w hSw; (try dsimp only at hSw); go_simp; try with_reducible rfl
                        simp only [Act.put, List.getElem_toArray, List.getElem_cons_zero, List.getElem_cons_succ, List.setIfInBounds_toArray, List.set_cons_zero, List.set_cons_succ]
                        refine wpAnyL_take (i := 16) (v := ?_) rfl (by kernel_rfl) (by kernel_rfl) (by kernel_rfl) (by kernel_rfl) (fun _ _ _ h => h) (Or.inl ⟨by rfl, ?_⟩) (by assumption) ?_
                        rotate_left
                        · intro w hSw; (try dsimp only at hSw); go_simp; try with_reducible rfl
                        simp only [Act.put, List.getElem_toArray, List.getElem_cons_zero, List.getElem_cons_succ, List.setIfInBounds_toArray, List.set_cons_zero, List.set_cons_succ]
                        refine wpAnyL_ready (rs := [17]) (by kernel_rfl) (by simp) ?_
                        refine AllReadyL.last rfl (by kernel_rfl) (fun K hK => ?_) AllReadyL.nil
                        go_simp
                        refine hK.out _ _ ?_
                        clear hK K hHeld
                        refine wpAnyL_done (by kernel_rfl) ?_ _
                        have hvyu : U64 vy := by rw [← Hvy.out]; unfold U64; rw [IntKind.wrap_u64]; omega
                        have hFrg : F ≠ rg := by omega
                        have hF8 := (HF7.out.far (p := ⟨rg, ri, none⟩) hFrg (.int .u64 vy)).drew
                        have hC8 := (HC7.out.setReg (r := ri) hvyu).drew
                        have hk8 := (Hk7.out.setCell (p := ⟨rg, ri, none⟩) (.inl (.inr (.inl rfl))) (.int .u64 vy)).drew
                        rw [← Hrw.out, regsUp_set HC1.out.len (by omega)] at hC8
                        rw [Hrw.out] at hC8
                        have HF8 := Lib.hid hF8
                        have HC8 := Lib.hid hC8
                        have Hk8 := Lib.hid hk8
                        have Hvyu := Lib.hid hvyu
                        clear hvyu hk8 hC8 hF8
                        clear hFrg
                        go_wp2_with fail
                        exact ⟨⟨ri + 1, by omega, by go_num, HF8.out, HC8.out, Hk8.out⟩, by simp [intOf]; omega⟩
                      · have hrw := regW_miss (base := base) (E := E) (y := y) (s := sp) (S := rs) (regs := regs) hr14 (by rw [Hgx.out]; exact hhit)
                        have hsame := regsUp_same HC1.out.len (by omega) hrw
                        have hcase : (nb = false) ∨ (nb = true ∧ ¬ base ≤ x) ∨ (nb = true ∧ base ≤ x ∧ ¬ x < E) := by
                          cases nb
                          · exact .inl rfl
                          · have : (ri : Int) ∈ rs := by simpa using hnb
                            by_cases h1 : base ≤ x
                            · exact .inr (.inr ⟨rfl, h1, fun h2 => hhit ⟨this, h1, h2⟩⟩)
                            · exact .inr (.inl ⟨rfl, h1⟩)
                        have Hrw := Lib.hid hrw
                        have Hsame := Lib.hid hsame
                        have Hnb := Lib.hid hnb
                        have Hhit := Lib.hid hhit
                        clear hhit hnb hsame hrw
                        rcases hcase with rfl | ⟨rfl, c1⟩ | ⟨rfl, c1, c2⟩
                        all_goals
                          go_upto_region 42 with fail
                          go_quiet (fail)
                          go_wp2_with fail
                          refine ⟨⟨ri + 1, by omega, by go_num, HF6.out.drewN nq, ?_, Hk6.out.drewN nq⟩, by simp [intOf]; omega⟩
                          rw [Hsame.out]
                          exact HC6.out.drewN nq
                · have hri6 : ¬ (ri : Int) < 14 := by omega
                  have kr8 := hC6.regs_
                  have h14 : (regsUp base E y rs regs sp ri)[14]? = some sp := by rw [regsUp_get HC1.out.len 14 (by omega) (by omega)]; exact Hsp.out
                  have k14 := hC6.reg h14
                  have f14 := hC6.rblk.frozen 14
                  obtain ⟨vy, hvy⟩ : ∃ vy, IntKind.u64.wrap (sp + y) = vy := ⟨_, rfl⟩
                  obtain ⟨d, hd⟩ : ∃ d, IntKind.u64.wrap (sp - E) = d := ⟨_, rfl⟩
                  have hdT : IntKind.u64.wrap (d + T) = vy := by rw [← hd, ← hT, ← hvy]; exact moved_word sp E _ y Hy.out
                  have hvyu : U64 vy := by rw [← hvy]; unfold U64; rw [IntKind.wrap_u64]; omega
                  have hFne : F ≠ rg ∧ F ≠ q ∧ rg ≠ F := by omega
                  have hF8 := hF6.far (p := ⟨rg, 14, none⟩) hFne.1 (.int .u64 vy)
                  have hC8 := hC6.setReg (r := 14) hvyu
                  have hk8 := hk6.setCell (p := ⟨rg, 14, none⟩) (.inl (.inr (.inl rfl))) (.int .u64 vy)
                  rw [show ri = 14 by omega, ← hvy, regsUp_end HC1.out.len HokR.out, hvy] at hC8
                  have HF6 := Lib.hid hF6
                  have HC6 := Lib.hid hC6
                  have Hk6 := Lib.hid hk6
                  have HF8 := Lib.hid hF8
                  have HC8 := Lib.hid hC8
                  have Hk8 := Lib.hid hk8
                  have Hvyu := Lib.hid hvyu
                  have Hvy := Lib.hid hvy
                  have H14 := Lib.hid h14
                  have HFne := Lib.hid hFne
                  clear hFne h14 hvy hvyu hk8 hC8 hF8 hk6 hC6 hF6
                  go_upto_region 45 with fail
                  obtain ⟨W8, hW8⟩ : ∃ W8, W8 = wr.setCell ⟨rg, 14, none⟩ (.int .u64 vy) := ⟨_, rfl⟩
                  have hF9 := HF8.out
                  have hC9 := HC8.out
                  have hk9 := Hk8.out
                  rw [← hW8] at hF9 hC9 hk9 ⊢
                  clear kr8 k14 f14
                  have k9 := hC9.base_
                  have f9 := hC9.blk.frozen 3
                  have hMy := Hmay.out
                  have hF10 := hF9.far (p := ⟨q, 3, none⟩) HFne.out.2.1 (.int .u64 base')
                  have hC10 := hC9.setBase (b' := base') ⟨hMy.1, hMy.2.1, hMy.2.2.1⟩
                  have hk10 := hk9.setCell (p := ⟨q, 3, none⟩) (.inl (.inl rfl)) (.int .u64 base')
                  have HW8 := Lib.hid hW8
                  have HF9 := Lib.hid hF9
                  have HC9 := Lib.hid hC9
                  have Hk9 := Lib.hid hk9
                  have HF10 := Lib.hid hF10
                  have HC10 := Lib.hid hC10
                  have Hk10 := Lib.hid hk10
                  clear hk10 hC10 hF10 hk9 hC9 hF9 hW8
                  clear hMy
                  go_upto_region 46 with fail
                  obtain ⟨W9, hW9⟩ : ∃ W9, W9 = W8.setCell ⟨q, 3, none⟩ (.int .u64 base') := ⟨_, rfl⟩
                  have hF11 := HF10.out
                  have hC11 := HC10.out
                  have hk11 := Hk10.out
                  rw [← hW9] at hF11 hC11 hk11 ⊢
                  clear k9 f9
                  have k11 := hC11.words_
                  rw [Hn.out] at k11
                  have f11 := hC11.blk.frozen 4
                  have hMl : MW.length = Z := by
                    rw [← HMW.out]
                    unfold movedW
                    rw [List.length_append, List.length_replicate, tail_length, Hn.out]
                    have := HmU.out; have := HZ.out
                    omega
                  have hMu : ∀ x ∈ MW, U64 x := by
                    rw [← HMW.out]
                    unfold movedW
                    intro x hx
                    rcases List.mem_append.1 hx with h1 | h1
                    · rw [List.eq_of_mem_replicate h1]; unfold U64; omega
                    · exact tail_u64 HC1.out.wok x h1
                  have hC12 := hC11.setWords hF11 (by have := H.out.loLt; omega) HFne.out.2.2 hMu (by omega)
                  rw [hMl] at hC12
                  have hk12 := hk11.setCell (p := ⟨q, 4, none⟩) (.inl (.inl rfl)) (.slice (some ⟨F, 0, none⟩) Z Z)
                  have HW9 := Lib.hid hW9
                  have HF11 := Lib.hid hF11
                  have HC11 := Lib.hid hC11
                  have Hk11 := Lib.hid hk11
                  have HC12 := Lib.hid hC12
                  have Hk12 := Lib.hid hk12
                  have HMl := Lib.hid hMl
                  have HMu := Lib.hid hMu
                  clear hMu hMl hk12 hC12 hk11 hC11 hF11 hW9
                  go_wp2_with fail
                  go_ret
                  rw [HMW.out]
                  exact .inl ⟨Hall.out, rfl, ⟨F, HC12.out⟩, Hk12.out⟩
end Go.Proofs.Ytndmhnmclogpcaa
