/- Walk of what is answered ahead of everything else: ten bytes are read and written. No condition. -/
import Derived.Test.YtcaefdfdngecdaaDec3
import Derived.Test.YtcaefdfdngecdaaEnc4
import Derived.Test.YtcaefdfdngecdaaPlainCode
set_option linter.unusedVariables false
set_option linter.unusedSimpArgs false
namespace Go.Proofs.Ytcaefdfdngecdaa
open Go.RowKit

def xs0 : List Int := [87, 76, 1, 0, 0, 0, 255, 1, 0, 24]
def f0 : FuncD := ⟨0, [], false, -1, [⟨24, 0, 0⟩]⟩
theorem dec0 : decP xs0 = some [f0] := by rfl
theorem bound0 : boundP [f0] = true := by decide
theorem ok0 : okP [f0] = true := by decide
theorem enc0 : (encP [f0]).length = 10 := by decide
/-- the cells of the only function, of its only instruction -/
theorem one_func {w : World} {B : Nat} {pv : Value} {f : FuncD} {i : InstrD} (h : FuncsAt w B pv [f]) (hf : f.code = [i]) :
    ∃ ad c lv ad2 c2, pv = .slice (some ad) 1 c ∧ ad.block < B ∧ ad2.block < B ∧ w.cell? ad = some (.int .i64 f.params) ∧ w.cell? ⟨ad.block, ad.off + 1, none⟩ = some lv ∧ w.cell? ⟨ad.block, ad.off + 3, none⟩ = some (.int .i64 f.keep) ∧ w.cell? ⟨ad.block, ad.off + 4, none⟩ = some (.slice (some ad2) 1 c2) ∧ w.cell? ad2 = some (.int .u8 i.op) := by
  obtain ⟨A, n, c, css, rfl, h1, h2, h3, h4, h5, h6⟩ := h
  have hc5 := css_five h3 h4 h6
  simp only [List.length_cons, List.length_nil] at h3
  subst h3
  obtain ⟨ad, rfl, hadb, _⟩ := h5.2 (by omega)
  obtain ⟨cs, hck, lv, cv, rfl, hlv, A2, n2, c2, rfl, k1, k2, k3, k4⟩ := h6 0 f rfl
  rw [hf] at k3 k4
  simp only [List.length_cons, List.length_nil] at k3
  subst k3
  obtain ⟨ad2, rfl, hadb2, hcell2⟩ := k4.2 (by omega)
  obtain ⟨g0, g1, g2, g3, g4⟩ := func_cells h5 h4 hc5 0 f lv _ hck
  have e : ad.add (0 * 5) = ad := by simp [Addr.add]
  have e2 : ad2.add 0 = ad2 := by simp [Addr.add]
  rw [e] at g0 g1 g2 g3 g4
  have q := hcell2 0 _ rfl
  rw [e2] at q
  exact ⟨ad, c, lv, ad2, c2, rfl, hadb, hadb2, g0, g1, g3, g4, q⟩
set_option maxRecDepth 100000 in
set_option maxHeartbeats 1000000 in
theorem first_any (w : World) : Calls Try.prog 9 #[] w fun e w' => e = .returned (.bool true) ∧ Below w.heap.size w w' := by
  have hk : KindsAt (w.alloc (.cells #[.int .u8 87, .int .u8 76, .int .u8 1, .int .u8 0, .int .u8 0, .int .u8 0, .int .u8 255, .int .u8 1, .int .u8 0, .int .u8 24] 5)) (w.heap.size + 1) (.slice (some ⟨w.heap.size, 0, none⟩) 10 10) xs0 :=
    ⟨_, _, _, rfl, Nat.le_refl _, by unfold maxLen; omega, rfl, Reads.newN _ rfl _ _ 10 _ rfl rfl⟩
  have hb0 : Below w.heap.size w (w.alloc (.cells #[.int .u8 87, .int .u8 76, .int .u8 1, .int .u8 0, .int .u8 0, .int .u8 0, .int .u8 255, .int .u8 1, .int .u8 0, .int .u8 24] 5)) := (Below.refl _ _).alloc (Nat.le_refl _) _
  have hby : ∀ x ∈ xs0, Byte x := by
    intro x hx
    simp only [xs0, List.mem_cons, List.not_mem_nil, or_false] at hx
    unfold Byte; omega
  have Hk := Lib.hid hk
  have Hb0 := Lib.hid hb0
  have Hby := Lib.hid hby
  clear hby hb0 hk
  go_enter Try.func9, Try.ntmps9
  go_wp2_with fail
  refine (decode_any _ xs0 _ _ Hk.out Hby.out (by simp)).mono ?_
  rintro e w1 hpost
  obtain ⟨hb1, hcase⟩ := hpost
  obtain ⟨fs, pv, hd, hbd, rfl, hfs, hwf⟩ : ∃ fs pv, decP xs0 = some fs ∧ boundP fs = true ∧ e = .returned (.tuple #[.agg #[pv], .int .i64 0]) ∧ FuncsAt w1 w1.heap.size pv fs ∧ ∀ f ∈ fs, f.Wf := by
    rcases hcase with ⟨h, _⟩ | ⟨fs, h, h2, _⟩ | h
    · rw [dec0] at h; cases h
    · rw [dec0] at h; injection h with h; subst h; rw [bound0] at h2; cases h2
    · exact h
  rw [dec0] at hd
  injection hd with hd
  subst hd
  obtain ⟨ad, c, lv, ad2, c2, rfl, ha1, ha2, c0, c1, c3, c4, c5⟩ := one_func hfs (i := ⟨24, 0, 0⟩) rfl
  have hb1' := Hb0.out.trans (hb1.mono (by simp))
  have hs1 : w.heap.size + 1 ≤ w1.heap.size := by have := hb1.size; simpa using this
  have hfs' := (hfs.below ((Below.refl w1.heap.size w1).alloc (Nat.le_refl _) (.cells #[.slice (some ad) 1 c] 26))).more (B' := (w1.alloc (.cells #[.slice (some ad) 1 c] 26)).heap.size) (by simp)
  have Hfs' := Lib.hid hfs'
  have Hwf := Lib.hid hwf
  have Hb1' := Lib.hid hb1'
  clear hb1' hwf hfs'
  clear hfs hbd hcase hb1
  go_wp2_with fail
  refine (encode_any _ [f0] _ Hfs'.out Hwf.out).mono ?_
  rintro e w2 ⟨hcase, hb2⟩
  obtain ⟨sv, rfl, hown⟩ : ∃ sv, e = .returned (.tuple #[sv, .int .i64 0]) ∧ w2.ownsRow (w1.alloc (.cells #[.slice (some ad) 1 c] 26)).heap.size 5 1 sv (encP [f0]).length (byteVals (encP [f0])) := by
    rcases hcase with ⟨_, h⟩ | ⟨h, _⟩
    · exact h
    · rw [ok0] at h; cases h
  rw [enc0] at hown
  obtain ⟨g, cap, rfl, _⟩ := own_form hown (by omega)
  have hbx := Hb1'.out.trans (((Below.refl w1.heap.size w1).alloc (Nat.le_refl _) (.cells #[.slice (some ad) 1 c] 26)).trans (hb2.mono (by simp)) |>.mono (by omega))
  have hP2 : Blk w2 w1.heap.size 26 #[.slice (some ad) 1 c] := (Blk.new w1 _ _).below hb2 (by simp)
  have hold : ∀ p : Addr, p.block < w1.heap.size → w2.cell? p = w1.cell? p := fun p hp => (hb2.cell (by simp; omega)).trans (World.cell?_alloc_lt w1 _ p hp)
  have d0 := (hold _ ha1).trans c0
  have d1 := (hold ⟨ad.block, ad.off + 1, none⟩ ha1).trans c1
  have d3 := (hold ⟨ad.block, ad.off + 3, none⟩ ha1).trans c3
  have d4 := (hold ⟨ad.block, ad.off + 4, none⟩ ha1).trans c4
  have d5 := (hold _ ha2).trans c5
  have kp0 := Blk.cell hP2 0
  simp only [List.getElem?_toArray, List.getElem?_cons_zero, List.getElem?_cons_succ] at kp0
  have Hbx := Lib.hid hbx
  clear hbx
  clear hold c0 c1 c3 c4 c5 hb2 hown hcase hP2
  go_wp2_with fail
  go_ret
  exact ⟨rfl, Hbx.out⟩
end Go.Proofs.Ytcaefdfdngecdaa
