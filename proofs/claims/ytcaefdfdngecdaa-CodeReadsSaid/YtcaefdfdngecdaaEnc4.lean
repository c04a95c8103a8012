/- Walk of Encode. Conditions: the program lies in memory, its numbers fit their kinds. -/
import Derived.Test.YtcaefdfdngecdaaEnc3
set_option linter.unusedVariables false
set_option linter.unusedSimpArgs false
namespace Go.Proofs.Ytcaefdfdngecdaa
open Go.RowKit

def okP (fs : List FuncD) : Bool := decide (1 ≤ fs.length ∧ fs.length ≤ 255) && fs.all okF
def encP (fs : List FuncD) : List Int := [87, 76, (fs.length : Int)] ++ fs.flatMap encF
theorem encF_le (f : FuncD) (h : okF f = true) : (encF f).length ≤ 600000 := by
  unfold okF headOk at h
  simp only [Bool.and_eq_true, decide_eq_true_eq] at h
  have h1 := encIs_le f.code
  simp only [encF, encHead, List.length_append, bytesLE_length, List.length_cons, List.length_nil]
  omega
theorem encFs_le (fs : List FuncD) (h : ∀ f ∈ fs, okF f = true) : (fs.flatMap encF).length ≤ 600000 * fs.length := by
  induction fs with
  | nil => simp
  | cons x r ih =>
    have h1 := encF_le x (h x List.mem_cons_self)
    have h2 := ih fun f hf => h f (List.mem_cons_of_mem _ hf)
    rw [List.flatMap_cons, List.length_append, List.length_cons]; omega
theorem encFs_snoc (fs : List FuncD) (j : Nat) (x : FuncD) (h : fs[j]? = some x) : (fs.take (j + 1)).flatMap encF = (fs.take j).flatMap encF ++ encF x := by
  rw [List.take_add_one, h]; simp
/-- the five cells of a function in a slice, as a walk reads them -/
theorem func_cells {w : World} {B n : Nat} {ad : Addr} {css : List (List Value)} (hr : Reads w B 5 (some ad) n css.flatten) (hn : css.length = n) (h5 : ∀ c ∈ css, c.length = 5) (j : Nat) (f : FuncD) (lv cv : Value) (h : css[j]? = some (fcells f lv cv)) :
    w.cell? (ad.add (j * 5)) = some (.int .i64 f.params) ∧ w.cell? ⟨(ad.add (j * 5)).block, (ad.add (j * 5)).off + 1, none⟩ = some lv ∧ w.cell? ⟨(ad.add (j * 5)).block, (ad.add (j * 5)).off + 2, none⟩ = some (.bool f.result) ∧
    w.cell? ⟨(ad.add (j * 5)).block, (ad.add (j * 5)).off + 3, none⟩ = some (.int .i64 f.keep) ∧ w.cell? ⟨(ad.add (j * 5)).block, (ad.add (j * 5)).off + 4, none⟩ = some cv := by
  have hj : j < css.length := (List.getElem?_eq_some_iff.1 h).1
  obtain ⟨ad', e, _, hc⟩ := hr.2 (by omega)
  injection e with e
  subst e
  refine ⟨?_, ?_, ?_, ?_, ?_⟩
  · exact hc _ _ (by rw [← Nat.add_zero (j * 5), flatten_five css j _ h h5 0 (by omega)]; rfl)
  · rw [addr_sub ad _ 1 (by omega)]; exact hc _ _ (by rw [flatten_five css j _ h h5 1 (by omega)]; rfl)
  · rw [addr_sub ad _ 2 (by omega)]; exact hc _ _ (by rw [flatten_five css j _ h h5 2 (by omega)]; rfl)
  · rw [addr_sub ad _ 3 (by omega)]; exact hc _ _ (by rw [flatten_five css j _ h h5 3 (by omega)]; rfl)
  · rw [addr_sub ad _ 4 (by omega)]; exact hc _ _ (by rw [flatten_five css j _ h h5 4 (by omega)]; rfl)
theorem css_five {w : World} {B n : Nat} {fs : List FuncD} {css : List (List Value)} (hl : fs.length = n) (hn : css.length = n) (h : ∀ (i : Nat) f, fs[i]? = some f → ∃ cs, css[i]? = some cs ∧ FuncAt w B cs f) : ∀ c ∈ css, c.length = 5 := by
  intro c hc
  obtain ⟨i, hi, rfl⟩ := List.getElem_of_mem hc
  obtain ⟨cs, h1, lv, cv, h2, _⟩ := h i fs[i] (List.getElem?_eq_getElem (by omega))
  rw [List.getElem?_eq_getElem hi] at h1
  injection h1 with h1
  rw [h1, h2]; rfl
set_option maxRecDepth 100000 in
set_option maxHeartbeats 1000000 in
theorem encode_size (fsv : Value) (fs : List FuncD) (w : World) (B : Nat) (hp : FuncsAt w B fsv fs) (hbad : ¬ (1 ≤ fs.length ∧ fs.length ≤ 255)) :
    Calls Try.prog 13 #[.agg #[fsv]] w fun e w' => e = .returned (.tuple #[.slice none 0 0, .int .i64 30]) ∧ Below w.heap.size w w' := by
  obtain ⟨A, n, c, css, rfl, h1, h2, h3, _, _, _⟩ := hp
  rw [h3] at hbad
  unfold maxLen at h2
  have k0 : (w.alloc (.cells #[.slice A n c] 26)).cell? ⟨w.heap.size, 0, none⟩ = some (.slice A n c) := (Blk.new w 26 #[.slice A n c]).cell 0
  clear h3
  by_cases hz : n = 0
  · subst hz
    go_enter Try.func13, Try.ntmps13
    go_wp2_with fail
    go_ret2
    exact ⟨rfl, (Below.refl _ _).alloc (Nat.le_refl _) _⟩
  · have hz' : ((n : Int) == 0) = false := by simpa using hz
    have hb : decide ((255 : Int) < n) = true := by simp only [decide_eq_true_eq]; omega
    go_enter Try.func13, Try.ntmps13
    go_wp2_with fail
    go_ret2
    exact ⟨rfl, (Below.refl _ _).alloc (Nat.le_refl _) _⟩
set_option maxRecDepth 100000 in
set_option maxHeartbeats 1000000 in
theorem encode_body (fsv : Value) (fs : List FuncD) (w : World) (hp : FuncsAt w w.heap.size fsv fs) (hwf : ∀ f ∈ fs, f.Wf) (h1 : 1 ≤ fs.length) (h255 : fs.length ≤ 255) :
    Calls Try.prog 13 #[.agg #[fsv]] w fun e w' => (okP fs = true ∧ (∃ sv, e = .returned (.tuple #[sv, .int .i64 0]) ∧ w'.ownsRow w.heap.size 5 1 sv (encP fs).length (byteVals (encP fs))) ∨ okP fs = false ∧ e = .returned (.tuple #[.slice none 0 0, .int .i64 30])) ∧ Below w.heap.size w w' := by
  obtain ⟨A, n, c, css, rfl, hc1, hc2, hl, hcl, hr, hcs⟩ := hp
  have h5 := css_five hl hcl hcs
  unfold maxLen at hc2
  rw [hl] at h1 h255
  obtain ⟨ad, hA, hadb, _⟩ := hr.2 (by omega)
  subst hA
  have k0 : (w.alloc (.cells #[.slice (some ad) n c] 26)).cell? ⟨w.heap.size, 0, none⟩ = some (.slice (some ad) n c) := (Blk.new w 26 #[.slice (some ad) n c]).cell 0
  have hz' : ((n : Int) == 0) = false := by rw [beq_eq_false_iff_ne]; omega
  have hb : decide ((255 : Int) < n) = false := by simp only [decide_eq_false_iff_not]; omega
  have k0' : ((w.alloc (.cells #[.slice (some ad) n c] 26)).alloc (.cells #[.int .u8 87, .int .u8 76, .int .u8 (n : Int)] 5)).cell? ⟨w.heap.size, 0, none⟩ = some (.slice (some ad) n c) := ((Blk.new w 26 #[.slice (some ad) n c]).alloc _).cell 0
  have HL := Lib.hid hl
  have HC := Lib.hid hcl
  have HCS := Lib.hid hcs
  have HW := Lib.hid hwf
  clear hl hcl hcs hwf
  go_enter Try.func13, Try.ntmps13
  go_wp2_with fail
  have hst : ((w.alloc (.cells #[.slice (some ad) n c] 26)).alloc (.cells #[.int .u8 87, .int .u8 76, .int .u8 (n : Int)] 5)).ownsRow w.heap.size 5 1 (.slice (some ⟨w.heap.size + 1, 0, none⟩) 3 3) 3 (byteVals [87, 76, (n : Int)]) := by
    have h := World.ownsRow_lit (base := w.heap.size) (e := 5) (size := 1) (w.alloc (.cells #[.slice (some ad) n c] 26)) #[.int .u8 87, .int .u8 76, .int .u8 (n : Int)] 3 (by simp) (by unfold maxLen; omega) rfl
    rw [World.size_alloc] at h
    exact h
  have hst' : ((w.alloc (.cells #[.slice (some ad) n c] 26)).alloc (.cells #[.int .u8 87, .int .u8 76, .int .u8 (n : Int)] 5)).ownsRow w.heap.size 5 1 (.slice (some ⟨w.heap.size + 1, 0, none⟩) 3 3) (3 + ((fs.take 0).flatMap encF).length) (byteVals ([87, 76, (n : Int)] ++ (fs.take 0).flatMap encF)) := by simpa using hst
  have hb0 : Below w.heap.size w ((w.alloc (.cells #[.slice (some ad) n c] 26)).alloc (.cells #[.int .u8 87, .int .u8 76, .int .u8 (n : Int)] 5)) := ((Below.refl _ _).alloc (Nat.le_refl _) _).alloc (by simp) _
  clear k0 k0' hst
  go_loopw [4, 26] (fun s i wr => ∃ j : Nat, j ≤ n ∧ i = .int .i64 j ∧ wr.ownsRow w.heap.size 5 1 s (3 + ((fs.take j).flatMap encF).length) (byteVals ([87, 76, (n : Int)] ++ (fs.take j).flatMap encF)) ∧ Below w.heap.size w wr ∧ Hid (∀ x ∈ fs.take j, okF x = true)) (fun _ i _ => n - (intOf i).toNat)
  case atStart => exact ⟨0, by omega, rfl, hst', hb0, by intro x hx; simp at hx⟩
  case round =>
    obtain ⟨j, hj, rfl, hown, hbw, hoks⟩ := hrel
    clear hst' hb0
    by_cases hlt : j < n
    · have hrw := hr.below hbw
      obtain ⟨f, hfk⟩ : ∃ f, fs[j]? = some f := ⟨_, List.getElem?_eq_getElem (by have := HL.out; omega)⟩
      obtain ⟨cs, hck, lv, cv, rfl, hlv, hcv⟩ := HCS.out j f hfk
      obtain ⟨⟨LA, ln, lc, rfl⟩, ⟨CA, cn, cc, rfl⟩⟩ : (∃ A n c, lv = .slice A n c) ∧ (∃ A n c, cv = .slice A n c) := by
        obtain ⟨a1, a2, a3, h1, _⟩ := hlv
        obtain ⟨b1, b2, b3, h2, _⟩ := hcv
        exact ⟨⟨a1, a2, a3, h1⟩, ⟨b1, b2, b3, h2⟩⟩
      obtain ⟨g0, g1, g2, g3, g4⟩ := func_cells hrw HC.out h5 j f _ _ hck
      have HLV := Lib.hid (hlv.below hbw)
      have HCV := Lib.hid (hcv.below hbw)
      have HX := Lib.hid hfk
      have hlen : ((fs.take j).flatMap encF).length ≤ 600000 * 255 := by
        have := encFs_le (fs.take j) hoks.out
        rw [List.length_take] at this
        omega
      have HO := Lib.hid hown
      have hsz := hbw.size
      have HFW := Lib.hid (HW.out f (List.mem_of_getElem? hfk))
      clear hrw hck hlv hcv hfk hown
      go_wp2_with fail
      refine (func_any w.heap.size _ u4 _ _ _ f HFW.out _ w.heap.size (Nat.le_refl _) (HLV.out.below ((Below.refl _ _).alloc (by omega) _)) (HCV.out.below ((Below.refl _ _).alloc (by omega) _)) (HO.out.alloc _) (by simp; omega) (by omega)).mono ?_
      rintro e w2 ⟨sv, rfl, hb2, hyes⟩
      have hbx := (hbw.alloc (by omega) _).trans hb2
      by_cases hx : okF f = true
      · obtain ⟨hown2, _⟩ := hyes hx
        have HOX := Lib.hid hx
        rw [hx]
        clear hyes hx
        go_wp2_with fail
        refine ⟨⟨j + 1, by omega, by go_num, ?_, hbx, ?_⟩, by simp [intOf]; omega⟩
        · rw [encFs_snoc fs j f HX.out, List.length_append, ← List.append_assoc, ← Nat.add_assoc]
          exact hown2
        · show ∀ y ∈ _, okF y = true
          rw [List.take_add_one, HX.out]
          intro y hy
          rcases List.mem_append.1 hy with h | h
          · exact hoks.out y h
          · simp at h; rw [h]; exact HOX.out
      · have hx' : okF f = false := by simpa using hx
        have HNO : Hid (okP fs = false) := by
          show _ = _
          unfold okP
          have : fs.all okF = false := by
            rw [List.all_eq_false]
            exact ⟨f, List.mem_of_getElem? HX.out, by simpa using hx⟩
          rw [this, Bool.and_false]
        rw [hx']
        clear hyes hx hx'
        go_wp2_with fail
        go_ret2
        exact ⟨.inr ⟨HNO.out, rfl⟩, hbx⟩
    · have hjn : n ≤ j := by omega
      have HYES : Hid (okP fs = true) := by
        show _ = _
        unfold okP
        have h2 : fs.all okF = true := by
          rw [List.all_eq_true]
          intro y hy
          exact hoks.out y (by rw [List.take_of_length_le (by have := HL.out; omega)]; exact hy)
        rw [h2, Bool.and_true, decide_eq_true_eq]
        have := HL.out
        omega
      have ho : wr.ownsRow w.heap.size 5 1 u4 (encP fs).length (byteVals (encP fs)) := by
        rw [List.take_of_length_le (by have := HL.out; omega)] at hown
        rw [encP, HL.out, List.length_append]
        exact hown
      have HO := Lib.hid ho
      clear hown ho
      go_wp2_with fail
      go_ret2
      exact ⟨.inl ⟨HYES.out, _, rfl, HO.out⟩, hbw⟩
/-- a program written: its bytes, or the answer size -/
theorem encode_any (fsv : Value) (fs : List FuncD) (w : World) (hp : FuncsAt w w.heap.size fsv fs) (hwf : ∀ f ∈ fs, f.Wf) :
    Calls Try.prog 13 #[.agg #[fsv]] w fun e w' => (okP fs = true ∧ (∃ sv, e = .returned (.tuple #[sv, .int .i64 0]) ∧ w'.ownsRow w.heap.size 5 1 sv (encP fs).length (byteVals (encP fs))) ∨ okP fs = false ∧ e = .returned (.tuple #[.slice none 0 0, .int .i64 30])) ∧ Below w.heap.size w w' := by
  by_cases h : 1 ≤ fs.length ∧ fs.length ≤ 255
  · exact encode_body fsv fs w hp hwf h.1 h.2
  · refine (encode_size fsv fs w _ hp h).mono fun e w' k => ⟨.inr ⟨?_, k.1⟩, k.2⟩
    unfold okP
    rw [decide_eq_false h, Bool.false_and]
end Go.Proofs.Ytcaefdfdngecdaa
