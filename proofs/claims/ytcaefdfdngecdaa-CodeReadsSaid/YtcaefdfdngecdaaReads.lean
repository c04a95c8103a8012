/- The law CodeReads: which bytes are a program, which pass a bound, and that a program's bytes are written so again. Condition: the bytes lie in memory. -/
import Derived.Test.YtcaefdfdngecdaaFirstC
import Derived.Test.YtcaefdfdngecdaaOpen
import Derived.Test.YtcaefdfdngecdaaRefRead
import Derived.Test.YtcaefdfdngecdaaRefSame
import Derived.Test.YtcaefdfdngecdaaRefBnd
import Derived.Laws.IdiomStrings
set_option linter.unusedVariables false
set_option linter.unusedSimpArgs false
namespace Go.Proofs.Ytcaefdfdngecdaa
open Go.RowKit

theorem conv_readsB (w : World) {B n c : Nat} {A : Option Addr} {xs : List Int} (h : Reads w B 1 A n (xs.map (Value.int .u8))) : (convert 22 9 (.slice A n c)).run Try.prog w = .ok (.string (strOfNums xs)) w :=
  run_conv_reads w _ _ _ Try.underlying22 Try.underlying5 Try.underlying9 h
/-- a string's bytes, in a row of their own -/
theorem conv_back (W : World) (xs : List Int) (hb : ∀ x ∈ xs, Byte x) : ∃ cp W', (convert 9 22 (.string (strOfNums xs))).run Try.prog W = .ok (.slice (some ⟨W.heap.size, 0, none⟩) xs.length cp) W' ∧
    xs.length ≤ cp ∧ Reads W' (W.heap.size + 1) 1 (some ⟨W.heap.size, 0, none⟩) xs.length (kindVals xs) ∧ Below W.heap.size W W' ∧ W'.heap.size = W.heap.size + 1 := by
  have hs := run_bytes_of_string (P := Try.prog) W 9 22 5 (strOfNums xs) Try.underlying9 Try.underlying22 Try.underlying5
  rw [strOfNums_size] at hs
  refine ⟨_, _, hs, by have := grownCap_ge W (strOfNums xs).size 0 5; rw [strOfNums_size] at this; exact this, ⟨by simp [kindVals], fun hn => ⟨_, rfl, Nat.lt_succ_self _, fun j u hu => ?_⟩⟩, ((Below.refl W.heap.size W).drew).alloc (Nat.le_refl _) _, by simp⟩
  refine World.news_of_block (heap_alloc_new W.drew _) j u ?_
  rw [kindVals, List.getElem?_map, Option.map_eq_some_iff] at hu
  obtain ⟨x, hx, rfl⟩ := hu
  have hjl := (List.getElem?_eq_some_iff.1 hx).1
  obtain ⟨x0, x1⟩ := hb x (List.mem_of_getElem? hx)
  simp only [bytesRow, Array.toList_append, Array.toList_map, strOfNums]
  rw [List.getElem?_append_left (by simpa using hjl), List.getElem?_map, List.getElem?_map, hx]
  simp only [Option.map_some, Option.some.injEq, Value.int.injEq, true_and]
  rw [UInt8.toNat_ofNat']
  omega
set_option maxRecDepth 100000 in
set_option maxHeartbeats 4000000 in
theorem walk_CodeReads (w : World) (A0 : Option Addr) (n0 c0 : Nat) (z0 : List Int) (r0 : Reads w w.heap.size 1 A0 n0 (z0.map (Value.int .u8))) (l0 : z0.length = n0) (nc0 : n0 ≤ c0) (cm0 : c0 ≤ maxLen) (rc0 : c0 * 1 ≤ 140737488351232) (w0 : ∀ z ∈ z0, (Lit.int .u8 z).wf = true) :
    Calls Try.prog 3 #[.slice A0 n0 c0] w fun e w' => e = .returned (.bool true) ∧ Below w.heap.size w w' := by
  have hby : ∀ x ∈ z0, Byte x := fun x hx => by have := bounds_u8 (w0 x hx); exact ⟨this.1, by omega⟩
  have hnn : n0 ≤ 140737488355000 := by omega
  have HR := Lib.hid r0
  have HL := Lib.hid l0
  have Hby := Lib.hid hby
  clear hby l0 r0
  clear w0
  go_enter Try.func3, Try.ntmps3
  go_wp2_with fail
  refine (first_any _).mono ?_
  rintro e w1 ⟨rfl, hb1⟩
  have hR1 := HR.out.below hb1
  have cv1 := conv_readsB w1 (c := c0) hR1
  have hs1 := hb1.size
  have HR1 := Lib.hid hR1
  have Hb1 := Lib.hid hb1
  clear hb1 hR1
  go_wp2_with fail
  refine (decode_any _ z0 w1 w.heap.size ⟨A0, n0, c0, rfl, nc0, cm0, HL.out, HR1.out⟩ Hby.out hs1).mono ?_
  rintro e w2 ⟨hb2, hcase2⟩
  have hs2 := hb2.size
  have hbw2 := Hb1.out.trans (hb2.mono hs1)
  clear cv1 hb2
  rcases hcase2 with ⟨hd, rfl⟩ | ⟨fs, hd, hbd, rfl⟩ | ⟨fs, pv, hd, hbd, rfl, hfs, hwf⟩
  · obtain ⟨cp, w3, hcv, hcp, hRd, hb3, hs3⟩ := conv_back (w2.alloc (.cells #[.slice none 0 0] 26)) z0 Hby.out
    have hP3 := (Blk.new w2 26 #[.slice none 0 0]).below hb3 (by simp)
    have hbw3 := (hbw2.alloc (by omega) (.cells #[.slice none 0 0] 26)).trans (hb3.mono (by simp; omega))
    simp only [World.size_alloc] at hcv hs3 hRd
    rw [HL.out] at hcv hcp hRd
    have Hd := Lib.hid hd
    clear hd
    have HP3 := Lib.hid hP3
    have Hbw3 := Lib.hid hbw3
    have HRd := Lib.hid hRd
    clear hRd hbw3 hP3
    clear hbw2 hb3
    go_wp2_with fail
    refine (read_any _ n0 cp z0 w3 _ HRd.out HL.out hcp hnn Hby.out (by omega)).mono ?_
    rintro e w4 ⟨hb4, hcase4⟩
    have hP4 := HP3.out.below hb4 (by omega)
    have hbw4 := Hbw3.out.trans (hb4.mono (by have := Hbw3.out.size; omega))
    have hs4 := hb4.size
    have hR4 := HR.out.below hbw4
    clear hcv
    obtain rfl : e = .returned (.tuple #[.agg #[.slice none 0 0], .bool false]) := by
      rcases hcase4 with ⟨_, h⟩ | ⟨fs, pv, h, _⟩
      · exact h
      · rw [Hd.out] at h; cases h
    have hP5 := hP4.alloc (.cells #[.slice none 0 0] 26)
    have hQ5 := Blk.new w4 26 #[.slice none 0 0]
    have hbw5 := hbw4.alloc (by omega) (.cells #[.slice none 0 0] 26)
    have cv5 := conv_readsB (w4.alloc (.cells #[.slice none 0 0] 26)) (c := c0) (hR4.alloc (by omega) _)
    have kp0 := Blk.cell hP5 0
    simp only [List.getElem?_toArray, List.getElem?_cons_zero, List.getElem?_cons_succ] at kp0
    have kq0 := Blk.cell hQ5 0
    simp only [List.getElem?_toArray, List.getElem?_cons_zero, List.getElem?_cons_succ] at kq0
    have HP5 := Lib.hid hP5
    have HQ5 := Lib.hid hQ5
    have Hbw5 := Lib.hid hbw5
    clear hbw5 hQ5 hP5
    clear hcase4 hb4 hP4 hbw4 hR4
    go_wp2_with fail
    go_ret
    exact ⟨rfl, Hbw5.out⟩
  · obtain ⟨cp, w3, hcv, hcp, hRd, hb3, hs3⟩ := conv_back (w2.alloc (.cells #[.slice none 0 0] 26)) z0 Hby.out
    have hP3 := (Blk.new w2 26 #[.slice none 0 0]).below hb3 (by simp)
    have hbw3 := (hbw2.alloc (by omega) (.cells #[.slice none 0 0] 26)).trans (hb3.mono (by simp; omega))
    simp only [World.size_alloc] at hcv hs3 hRd
    rw [HL.out] at hcv hcp hRd
    have Hd := Lib.hid hd
    have Hbd := Lib.hid hbd
    clear hbd hd
    have HP3 := Lib.hid hP3
    have Hbw3 := Lib.hid hbw3
    have HRd := Lib.hid hRd
    clear hRd hbw3 hP3
    clear hbw2 hb3
    go_wp2_with fail
    refine (read_any _ n0 cp z0 w3 _ HRd.out HL.out hcp hnn Hby.out (by omega)).mono ?_
    rintro e w4 ⟨hb4, hcase4⟩
    have hP4 := HP3.out.below hb4 (by omega)
    have hbw4 := Hbw3.out.trans (hb4.mono (by have := Hbw3.out.size; omega))
    have hs4 := hb4.size
    have hR4 := HR.out.below hbw4
    clear hcv
    obtain ⟨QA, qn, qc, rfl, hq4⟩ : ∃ QA qn qc, e = .returned (.tuple #[.agg #[.slice QA qn qc], .bool true]) ∧ FuncsAt w4 w4.heap.size (.slice QA qn qc) fs := by
      rcases hcase4 with ⟨h, _⟩ | ⟨fs', pv', h, h2, h3⟩
      · rw [Hd.out] at h; cases h
      · rw [Hd.out] at h; injection h with h; subst h
        obtain ⟨QA, qn, qc, css, h4, _⟩ := id h3
        subst h4
        exact ⟨QA, qn, qc, h2, h3⟩
    have hq5 := (hq4.below ((Below.refl w4.heap.size w4).alloc (Nat.le_refl _) (.cells #[.slice QA qn qc] 26))).more (B' := (w4.alloc (.cells #[.slice QA qn qc] 26)).heap.size) (by simp)
    have hP5 := hP4.alloc (.cells #[.slice QA qn qc] 26)
    have hQ5 := Blk.new w4 26 #[.slice QA qn qc]
    have hbw5 := hbw4.alloc (by omega) (.cells #[.slice QA qn qc] 26)
    have cv5 := conv_readsB (w4.alloc (.cells #[.slice QA qn qc] 26)) (c := c0) (hR4.alloc (by omega) _)
    have kp0 := Blk.cell hP5 0
    simp only [List.getElem?_toArray, List.getElem?_cons_zero, List.getElem?_cons_succ] at kp0
    have kq0 := Blk.cell hQ5 0
    simp only [List.getElem?_toArray, List.getElem?_cons_zero, List.getElem?_cons_succ] at kq0
    have HP5 := Lib.hid hP5
    have HQ5 := Lib.hid hQ5
    have Hbw5 := Lib.hid hbw5
    have Hq5 := Lib.hid hq5
    clear hq5 hbw5 hQ5 hP5
    clear hcase4 hb4 hP4 hbw4 hR4 hq4
    go_wp2_with fail
    refine (refbounded_any _ fs _ _ Hq5.out (Nat.le_refl _)).mono ?_
    rintro e w6 ⟨rfl, hb6⟩
    rw [Hbd.out]
    have hP6 := HP5.out.below hb6 HP5.out.lt
    have hbw6 := Hbw5.out.trans (hb6.mono (by simp; omega))
    clear kp0 kq0 cv5
    have kp0 := Blk.cell hP6 0
    simp only [List.getElem?_toArray, List.getElem?_cons_zero, List.getElem?_cons_succ] at kp0
    have Hbw6 := Lib.hid hbw6
    clear hbw6
    clear hb6 hP6
    go_wp2_with fail
    go_ret
    exact ⟨rfl, Hbw6.out⟩
  · obtain ⟨PA, pn, pc, rfl, _⟩ : ∃ PA pn pc, pv = .slice PA pn pc ∧ True := by
      obtain ⟨PA, pn, pc, css, h4, _⟩ := hfs
      exact ⟨PA, pn, pc, h4, trivial⟩
    obtain ⟨hget, hokp, _⟩ := decP_get Hby.out hd
    obtain ⟨cp, w3, hcv, hcp, hRd, hb3, hs3⟩ := conv_back (w2.alloc (.cells #[.slice PA pn pc] 26)) z0 Hby.out
    have hP3 := (Blk.new w2 26 #[.slice PA pn pc]).below hb3 (by simp)
    have hbw3 := (hbw2.alloc (by omega) (.cells #[.slice PA pn pc] 26)).trans (hb3.mono (by simp; omega))
    simp only [World.size_alloc] at hcv hs3 hRd
    rw [HL.out] at hcv hcp hRd
    have hfs3 := (hfs.below (((Below.refl w2.heap.size w2).alloc (Nat.le_refl _) (.cells #[.slice PA pn pc] 26)).trans (hb3.mono (by simp)))).more (B' := w3.heap.size) (by omega)
    have Hd := Lib.hid hd
    have Hbd := Lib.hid hbd
    have Hfs3 := Lib.hid hfs3
    have Hwf := Lib.hid hwf
    have Hget := Lib.hid hget
    have Hokp := Lib.hid hokp
    clear hokp hget hwf hfs3 hbd hd
    clear hfs
    have HP3 := Lib.hid hP3
    have Hbw3 := Lib.hid hbw3
    have HRd := Lib.hid hRd
    clear hRd hbw3 hP3
    clear hbw2 hb3
    go_wp2_with fail
    refine (read_any _ n0 cp z0 w3 _ HRd.out HL.out hcp hnn Hby.out (by omega)).mono ?_
    rintro e w4 ⟨hb4, hcase4⟩
    have hP4 := HP3.out.below hb4 (by omega)
    have hbw4 := Hbw3.out.trans (hb4.mono (by have := Hbw3.out.size; omega))
    have hs4 := hb4.size
    have hR4 := HR.out.below hbw4
    clear hcv
    obtain ⟨QA, qn, qc, rfl, hq4⟩ : ∃ QA qn qc, e = .returned (.tuple #[.agg #[.slice QA qn qc], .bool true]) ∧ FuncsAt w4 w4.heap.size (.slice QA qn qc) fs := by
      rcases hcase4 with ⟨h, _⟩ | ⟨fs', pv', h, h2, h3⟩
      · rw [Hd.out] at h; cases h
      · rw [Hd.out] at h; injection h with h; subst h
        obtain ⟨QA, qn, qc, css, h4, _⟩ := id h3
        subst h4
        exact ⟨QA, qn, qc, h2, h3⟩
    have hq5 := (hq4.below ((Below.refl w4.heap.size w4).alloc (Nat.le_refl _) (.cells #[.slice QA qn qc] 26))).more (B' := (w4.alloc (.cells #[.slice QA qn qc] 26)).heap.size) (by simp)
    have hP5 := hP4.alloc (.cells #[.slice QA qn qc] 26)
    have hQ5 := Blk.new w4 26 #[.slice QA qn qc]
    have hbw5 := hbw4.alloc (by omega) (.cells #[.slice QA qn qc] 26)
    have cv5 := conv_readsB (w4.alloc (.cells #[.slice QA qn qc] 26)) (c := c0) (hR4.alloc (by omega) _)
    have kp0 := Blk.cell hP5 0
    simp only [List.getElem?_toArray, List.getElem?_cons_zero, List.getElem?_cons_succ] at kp0
    have kq0 := Blk.cell hQ5 0
    simp only [List.getElem?_toArray, List.getElem?_cons_zero, List.getElem?_cons_succ] at kq0
    have hfs5 := ((Hfs3.out.below hb4).below ((Below.refl w3.heap.size w4).alloc hs4 (.cells #[.slice QA qn qc] 26))).more (B' := (w4.alloc (.cells #[.slice QA qn qc] 26)).heap.size) (by simp; omega)
    have HP5 := Lib.hid hP5
    have HQ5 := Lib.hid hQ5
    have Hbw5 := Lib.hid hbw5
    have Hq5 := Lib.hid hq5
    have Hfs5 := Lib.hid hfs5
    clear hfs5 hq5 hbw5 hQ5 hP5
    clear hcase4 hb4 hP4 hbw4 hR4 hq4
    go_wp2_with fail
    refine (refbounded_any _ fs _ _ Hq5.out (Nat.le_refl _)).mono ?_
    rintro e w6 ⟨rfl, hb6⟩
    rw [Hbd.out]
    have hP6 := HP5.out.below hb6 HP5.out.lt
    have hQ6 := HQ5.out.below hb6 HQ5.out.lt
    have hbw6 := Hbw5.out.trans (hb6.mono (by simp; omega))
    have hs6 := hb6.size
    simp only [World.size_alloc] at hs6
    have hq6 := (Hq5.out.below hb6).more (B' := w6.heap.size) (by simp; omega)
    have hfs6 := (Hfs5.out.below hb6).more (B' := w6.heap.size) (by simp; omega)
    clear kp0 kq0 cv5
    have kp0 := Blk.cell hP6 0
    simp only [List.getElem?_toArray, List.getElem?_cons_zero, List.getElem?_cons_succ] at kp0
    have Hbw6 := Lib.hid hbw6
    have HP6 := Lib.hid hP6
    have HQ6 := Lib.hid hQ6
    have Hq6 := Lib.hid hq6
    have Hfs6 := Lib.hid hfs6
    clear hfs6 hq6 hQ6 hP6 hbw6
    clear hb6
    go_wp2_with fail
    refine (encode_any _ fs _ Hfs6.out Hwf.out).mono ?_
    rintro e w7 ⟨hcase7, hb7⟩
    obtain ⟨sv, rfl, hown⟩ : ∃ sv, e = .returned (.tuple #[sv, .int .i64 0]) ∧ w7.ownsRow w6.heap.size 5 1 sv (encP fs).length (byteVals (encP fs)) := by
      rcases hcase7 with ⟨_, h⟩ | ⟨h, _⟩
      · exact h
      · rw [Hokp.out] at h; cases h
    rw [← Hget.out] at hown
    obtain ⟨SA, sc, rfl, _⟩ := own_any hown
    have hP7 := HP6.out.below hb7 HP6.out.lt
    have hQ7 := HQ6.out.below hb7 HQ6.out.lt
    have hbw7 := Hbw6.out.trans (hb7.mono (by omega))
    have hs7 := hb7.size
    have hq7 := (Hq6.out.below hb7).more (B' := w7.heap.size) hs7
    have hfs7 := (Hfs6.out.below hb7).more (B' := w7.heap.size) hs7
    clear kp0
    have kp0 := Blk.cell hP7 0
    simp only [List.getElem?_toArray, List.getElem?_cons_zero, List.getElem?_cons_succ] at kp0
    have kq0 := Blk.cell hQ7 0
    simp only [List.getElem?_toArray, List.getElem?_cons_zero, List.getElem?_cons_succ] at kq0
    have Hbw7 := Lib.hid hbw7
    have HP7 := Lib.hid hP7
    have HQ7 := Lib.hid hQ7
    have Hq7 := Lib.hid hq7
    have Hfs7 := Lib.hid hfs7
    have Hown := Lib.hid hown
    clear hown hfs7 hq7 hQ7 hP7 hbw7
    clear hb7 hcase7
    go_wp2_with fail
    refine (refsame_any _ _ fs fs w7 w7.heap.size (Nat.le_refl _) Hfs7.out Hq7.out).mono ?_
    rintro e w8 ⟨rfl, hb8⟩
    rw [(eqP_iff fs fs).2 rfl]
    have hbw8 := Hbw7.out.trans (hb8.mono (by omega))
    have cv8 := conv_readsB w8 (c := sc) ((Reads.of_own Hown.out).below hb8)
    have Hbw8 := Lib.hid hbw8
    clear hbw8
    clear hb8 kp0 kq0
    go_wp2_with fail
    go_ret
    exact ⟨rfl, Hbw8.out⟩
end Go.Proofs.Ytcaefdfdngecdaa
