/- Walk of what is answered ahead of everything else: a machine of two instructions. No condition. -/
import Derived.Test.YtnnlhhokljjghaaNewC
import Derived.Test.YtnnlhhokljjghaaStepA
import Derived.Test.YtnnlhhokljjghaaStepC
import Derived.Test.YtnnlhhokljjghaaStepO
set_option linter.unusedVariables false
set_option linter.unusedSimpArgs false
namespace Go.Proofs.Ytnnlhhokljjghaa
open Go.RowKit

section
variable {w w' : World} {lo p : Nat} {cv sv : Value} {regs : List Int} {pc base : Int} {ws : List Int}
theorem ChipAt.keepB (h : ChipAt w lo p cv sv regs pc base ws) (hk : Keeps (fun i => i = p) w w') : Below lo w w' := hk.toBelow (by have := h.low; have := h.lt; omega) fun i e => by rw [e]; exact h.low
theorem ChipAt.keepS (h : ChipAt w lo p cv sv regs pc base ws) (hk : Keeps (fun i => sv.ownBlock = some i) w w') : Below lo w w' := hk.toBelow (by have := h.low; have := h.lt; omega) fun i e => (h.row.lt i e).1
theorem ChipAt.keepP (h : ChipAt w lo p cv sv regs pc base ws) (hk : Keeps (fun i => i = p ∨ sv.ownBlock = some i) w w') : Below lo w w' := hk.toBelow (by have := h.low; have := h.lt; omega) fun i e => e.elim (fun e => by rw [e]; exact h.low) (fun e => (h.row.lt i e).1)
theorem ChipAt.loLt (h : ChipAt w lo p cv sv regs pc base ws) : lo ≤ w.heap.size := by have := h.low; have := h.lt; omega
theorem ChipAt.alloc (h : ChipAt w lo p cv sv regs pc base ws) (o : Obj) : ChipAt (w.alloc o) lo p cv sv regs pc base ws := h.below ((Below.refl w.heap.size w).alloc (Nat.le_refl _) o)
theorem CodeM.below {A : Option Addr} {c : Nat} {l : List MInstD} (h : CodeM w lo A c l) (hb : Below lo w w') (hlo : lo ≤ w.heap.size) : CodeM w' lo A c l :=
  ⟨h.cap, h.fit, h.rd.keep fun p hp => hb.cell hp, h.wf, h.good⟩
end
set_option maxRecDepth 100000 in
set_option maxHeartbeats 4000000 in
theorem first_any (w : World) : Calls Try.prog 9 #[] w fun e w' => e = .returned (.bool true) ∧ Below w.heap.size w w' := by
  have hm : MayP 1024 64 := by unfold MayP; decide
  obtain ⟨l, hl⟩ : ∃ l : List MInstD, l = [⟨1, 0, 0, 0, 5⟩, ⟨13, 0, 0, 0, 2⟩] := ⟨_, rfl⟩
  have hg : ∀ i ∈ l, i.Wf ∧ goodP i = true := by
    intro i hi
    rw [hl] at hi
    simp only [List.mem_cons, List.not_mem_nil, or_false] at hi
    rcases hi with rfl | rfl
    · exact ⟨⟨by decide, by decide, by decide, by decide, by decide⟩, by rfl⟩
    · exact ⟨⟨by decide, by decide, by decide, by decide, by decide⟩, by rfl⟩
  have hlen : l.length = 2 := by rw [hl]; rfl
  have hall : l.all goodP = true := List.all_eq_true.2 fun i hi => (hg i hi).2
  have hk0 : l[0]? = some ⟨1, 0, 0, 0, 5⟩ := by rw [hl]; rfl
  have hk1 : l[1]? = some ⟨13, 0, 0, 0, 2⟩ := by rw [hl]; rfl
  have hdec : decM 2 (l.flatMap mbytes) = some l := by have := decM_flat l hg; rwa [hlen] at this
  have hfl : (l.flatMap mbytes).length = 16 := by rw [mbytes_flen, hlen]
  have hbd : ∀ x ∈ l.flatMap mbytes, 0 ≤ x ∧ x < 256 := mbytes_bd l (fun i hi => hg i hi)
  have hrd := Reads.newS (w := w) w.heap.size rfl (l.flatMap mcells).toArray 30 5 2 (l.flatMap mcells) rfl (by rw [mcells_flen, hlen])
  have hrd2 : w.alloc (.cells (l.flatMap mcells).toArray 30) = w.alloc (.cells #[.int .u8 1, .int .i64 0, .int .i64 0, .int .i64 0, .int .i32 5, .int .u8 13, .int .i64 0, .int .i64 0, .int .i64 0, .int .i32 2] 30) := by rw [hl]; rfl
  rw [hrd2] at hrd
  have hb0 := (Below.refl w.heap.size w).alloc (Nat.le_refl _) (.cells #[.int .u8 1, .int .i64 0, .int .i64 0, .int .i64 0, .int .i32 5, .int .u8 13, .int .i64 0, .int .i64 0, .int .i64 0, .int .i32 2] 30)
  have Hm := Lib.hid hm
  have Hl := Lib.hid hl
  have Hg := Lib.hid hg
  have Hlen := Lib.hid hlen
  have Hall := Lib.hid hall
  have Hk0 := Lib.hid hk0
  have Hk1 := Lib.hid hk1
  have Hdec := Lib.hid hdec
  have Hfl := Lib.hid hfl
  have Hbd := Lib.hid hbd
  have Hrd := Lib.hid hrd
  have Hrd2 := Lib.hid hrd2
  have Hb0 := Lib.hid hb0
  clear hb0 hrd2 hrd hbd hfl hdec hk1 hk0 hall hlen hg hl hm
  go_enter Try.func9, Try.ntmps9
  go_wp2_with fail
  refine (encode_any _ 2 _ l _ (w.heap.size + 1) Hrd.out Hlen.out (by omega) (by simp) (fun i hi => (Hg.out i hi).1)).mono ?_
  rintro e w1 ⟨hres, hb1⟩
  rcases hres with ⟨_, sv1, rfl, hown1⟩ | ⟨hno, _⟩
  case inr => rw [Hall.out] at hno; cases hno
  obtain ⟨A1, c1, rfl, hn1, hc1, hr1⟩ := own_any hown1
  have hbw1 := Hb0.out.trans (hb1.mono Hb0.out.size)
  have Hr1 := Lib.hid hr1
  have Hbw1 := Lib.hid hbw1
  clear hbw1 hr1
  clear hown1 hb1
  go_wp2_with fail
  refine (new_code w1 1024 64 Hm.out A1 (8 * 2) c1 _ l _ Hr1.out Hfl.out hn1 hc1 (by omega) (Nat.le_refl _) Hbd.out (by omega) Hdec.out).mono ?_
  rintro e w2 ⟨lo, p, A2, c2, sv, rfl, hC, hM, hlo, hb2⟩
  have hbw2 := Hbw1.out.trans (hb2.mono Hbw1.out.size)
  have hwlo : w.heap.size ≤ lo := Nat.le_trans Hbw1.out.size hlo
  have HC2 := Lib.hid hC
  have HM2 := Lib.hid hM
  have Hbw2 := Lib.hid hbw2
  have Hwlo := Lib.hid hwlo
  clear hwlo hbw2 hM hC
  clear hlo hb2
  go_wp2_with fail
  refine (step_li HC2.out HM2.out (Nat.le_refl _) rfl Hk0.out rfl).mono ?_
  rintro e w3 ⟨rfl, hC, hK⟩
  have hb3 := HC2.out.keepP hK
  have hM := HM2.out.below hb3 HC2.out.loLt
  have hbw3 := Hbw2.out.trans (hb3.mono Hwlo.out)
  have HC3 := Lib.hid hC
  have HM3 := Lib.hid hM
  have Hbw3 := Lib.hid hbw3
  clear hbw3 hM hC
  clear hK hb3
  go_wp2_with fail
  refine (step_sys HC3.out HM3.out (Nat.le_refl _) rfl Hk1.out rfl).mono ?_
  rintro e w4 ⟨rfl, hC, hK⟩
  have hb4 := HC3.out.keepP hK
  have hM := HM3.out.below hb4 HC3.out.loLt
  have hbw4 := Hbw3.out.trans (hb4.mono Hwlo.out)
  have HC4 := Lib.hid hC
  have HM4 := Lib.hid hM
  have Hbw4 := Lib.hid hbw4
  clear hbw4 hM hC
  clear hK hb4
  go_wp2_with fail
  refine (step_out HC4.out (.inr (by rw [Hlen.out]; omega))).mono ?_
  rintro e w5 ⟨rfl, hC, hK⟩
  have hb5 := HC4.out.keepP hK
  have hbw5 := Hbw4.out.trans (hb5.mono Hwlo.out)
  have HC5 := Lib.hid hC
  have Hbw5 := Lib.hid hbw5
  clear hbw5 hC
  clear hK hb5
  go_wp2_with fail
  refine (reg_in (((HC5.out.alloc _).alloc _).alloc _) 0 5 rfl 0 rfl).mono ?_
  rintro e w6 ⟨rfl, rfl⟩
  go_wp2_with fail
  refine (reg_in (((HC5.out.alloc _).alloc _).alloc _) 14 1088 rfl 14 rfl).mono ?_
  rintro e w6 ⟨rfl, rfl⟩
  go_wp2_with fail
  go_ret
  refine ⟨rfl, ?_⟩
  have hs := Hbw5.out.size
  exact ((Hbw5.out.alloc hs _).alloc (by simp; omega) _).alloc (by simp; omega) _
end Go.Proofs.Ytnnlhhokljjghaa
