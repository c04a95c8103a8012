/- Walk of chip's Encode: instructions as bytes. Conditions: the list lies in memory, its numbers fit their kinds. -/
import Derived.Test.YtnnlhhokljjghaaGood
set_option linter.unusedVariables false
set_option linter.unusedSimpArgs false
namespace Go.Proofs.Ytnnlhhokljjghaa
open Go.RowKit

theorem flatMap_get {α β : Type} {f : α → List β} {c : Nat} (hc : ∀ x, (f x).length = c) : ∀ (l : List α) (k : Nat) (x : α), l[k]? = some x → ∀ j, j < c → (l.flatMap f)[k * c + j]? = (f x)[j]?
  | [], k, x, h, j, hj => by simp at h
  | y :: l, 0, x, h, j, hj => by
    simp only [List.getElem?_cons_zero, Option.some.injEq] at h
    subst h
    rw [List.flatMap_cons, Nat.zero_mul, Nat.zero_add, List.getElem?_append_left (by rw [hc]; exact hj)]
  | y :: l, k + 1, x, h, j, hj => by
    rw [List.getElem?_cons_succ] at h
    rw [List.flatMap_cons, List.getElem?_append_right (by rw [hc, Nat.add_mul]; omega), hc, show (k + 1) * c + j - c = k * c + j by rw [Nat.add_mul]; omega]
    exact flatMap_get hc l k x h j hj
theorem mcells_len (i : MInstD) : (mcells i).length = 5 := rfl
/-- the cells of an instruction in a list -/
theorem mi_cells {w : World} {B n : Nat} {ad : Addr} {l : List MInstD} (h : Reads w B 5 (some ad) n (l.flatMap mcells)) {k : Nat} {i : MInstD} (hk : l[k]? = some i) (hn : 0 < n) :
    w.cell? (ad.add (k * 5)) = some (.int .u8 i.op) ∧ w.cell? ⟨(ad.add (k * 5)).block, (ad.add (k * 5)).off + 1, none⟩ = some (.int .i64 i.d) ∧ w.cell? ⟨(ad.add (k * 5)).block, (ad.add (k * 5)).off + 2, none⟩ = some (.int .i64 i.a) ∧
      w.cell? ⟨(ad.add (k * 5)).block, (ad.add (k * 5)).off + 3, none⟩ = some (.int .i64 i.b) ∧ w.cell? ⟨(ad.add (k * 5)).block, (ad.add (k * 5)).off + 4, none⟩ = some (.int .i32 i.imm) := by
  obtain ⟨ad', e, _, hc⟩ := h.2 hn
  injection e with e
  subst e
  have hg := fun j hj => flatMap_get mcells_len l k i hk j hj
  refine ⟨hc _ _ (hg 0 (by omega)), ?_, ?_, ?_, ?_⟩
  · rw [addr_sub ad (k * 5) 1 (by omega)]; exact hc _ _ (hg 1 (by omega))
  · rw [addr_sub ad (k * 5) 2 (by omega)]; exact hc _ _ (hg 2 (by omega))
  · rw [addr_sub ad (k * 5) 3 (by omega)]; exact hc _ _ (hg 3 (by omega))
  · rw [addr_sub ad (k * 5) 4 (by omega)]; exact hc _ _ (hg 4 (by omega))
/-- an instruction's bytes -/
def mbytes (i : MInstD) : List Int := [i.op, i.d, i.a, i.b] ++ bytesLE 4 (i.imm % 4294967296)
theorem mbytes_len (i : MInstD) : (mbytes i).length = 8 := by simp [mbytes, bytesLE_length]
theorem mbytes_flen (l : List MInstD) : (l.flatMap mbytes).length = 8 * l.length := by
  induction l with
  | nil => rfl
  | cons x r ih => rw [List.flatMap_cons, List.length_append, ih, mbytes_len, List.length_cons]; omega
theorem good_regs {i : MInstD} (h : goodP i = true) : (0 ≤ i.d ∧ i.d ≤ 15) ∧ (0 ≤ i.a ∧ i.a ≤ 15) ∧ (0 ≤ i.b ∧ i.b ≤ 15) := by
  unfold goodP at h
  rcases hl : lettersOf i.op with _ | cs
  · rw [hl] at h; simp at h
  · rw [hl] at h
    simp only [fieldOk, Bool.and_eq_true, Bool.or_eq_true, decide_eq_true_eq, Bool.not_true, Bool.false_eq_true, false_or] at h
    obtain ⟨⟨⟨⟨h1, h2⟩, h3⟩, _⟩, _⟩ := h
    exact ⟨h1.2, h2.2, h3.2⟩
set_option maxRecDepth 100000 in
set_option maxHeartbeats 4000000 in
theorem encode_any (A : Option Addr) (n c : Nat) (l : List MInstD) (w : World) (B : Nat) (hr : Reads w B 5 A n (l.flatMap mcells)) (hl : l.length = n) (hn : n ≤ 10000000000) (hB : B ≤ w.heap.size) (hw : ∀ i ∈ l, i.Wf) :
    Calls Try.prog 10 #[.slice A n c] w fun e w' => ((l.all goodP = true ∧ ∃ sv, e = .returned (.tuple #[sv, .int .i64 0]) ∧ w'.ownsRow w.heap.size 5 1 sv (8 * n) (byteVals (l.flatMap mbytes))) ∨ (l.all goodP = false ∧ e = .returned (.tuple #[.slice none 0 0, .int .i64 200]))) ∧ Below w.heap.size w w' := by
  obtain ⟨i0, hi0, hz0, hz1, hz2⟩ := info_parts infoU8
  have Hr := Lib.hid hr
  have Hl := Lib.hid hl
  have Hw := Lib.hid hw
  clear hw hl hr
  go_enter Try.func10, Try.ntmps10
  go_wp2_with fail
  go_loopw [4, 10] (fun s i wq => ∃ k : Nat, k ≤ n ∧ i = .int .i64 k ∧ wq.ownsRow w.heap.size 5 1 s (8 * k) (byteVals ((l.take k).flatMap mbytes)) ∧ Below w.heap.size w wq ∧ Hid (∀ i ∈ l.take k, goodP i = true)) (fun _ i _ => n - (intOf i).toNat)
  case atStart => exact ⟨0, by omega, rfl, by simpa [byteVals] using World.ownsRow_nil _ _ _ _, Below.refl _ _, (show ∀ i ∈ l.take 0, goodP i = true from fun i hi => by simp at hi)⟩
  case round =>
    obtain ⟨k, hk, rfl, hown, hbw, hgood⟩ := hrel
    by_cases hlt : k < n
    · obtain ⟨i, hik⟩ : ∃ i, l[k]? = some i := ⟨_, List.getElem?_eq_getElem (by have := Hl.out; omega)⟩
      have hrw := Hr.out.below (hbw.mono hB)
      obtain ⟨ad, hA, _, _⟩ := hrw.2 (by omega)
      subst hA
      obtain ⟨c0, c1, c2, c3, c4⟩ := mi_cells hrw hik (by omega)
      have hwf := Hw.out i (List.mem_of_getElem? hik)
      have htake : l.take (k + 1) = l.take k ++ [i] := by rw [List.take_add_one, hik]; rfl
      have hsz := hbw.size
      obtain ⟨op, d, a, b, imm⟩ := i
      simp only at c0 c1 c2 c3 c4
      have hbox := hbw.alloc hsz (.cells #[.int .u8 op, .int .i64 d, .int .i64 a, .int .i64 b, .int .i32 imm] 30)
      have hP := Blk.new wr 30 #[.int .u8 op, .int .i64 d, .int .i64 a, .int .i64 b, .int .i32 imm]
      have hO := hown.alloc (.cells #[.int .u8 op, .int .i64 d, .int .i64 a, .int .i64 b, .int .i32 imm] 30)
      have Hrw := Lib.hid hrw
      have Hik := Lib.hid hik
      have Hwf := Lib.hid hwf
      have Htake := Lib.hid htake
      have Hown := Lib.hid hown
      have Hbw := Lib.hid hbw
      have Hbox := Lib.hid hbox
      have HP := Lib.hid hP
      have HO := Lib.hid hO
      clear hO hP hbox hbw hown htake hwf hik hrw
      go_wp2_with fail
      refine (good_any ⟨op, d, a, b, imm⟩ Hwf.out _).mono ?_
      rintro e w5 ⟨rfl, hb5⟩
      have hb5' := Hbox.out.trans (hb5.mono (by simp; omega))
      have hP5 := HP.out.below hb5 (by simp)
      have hO5 := own_kept' HO.out (only_of_below hb5 none) nofun
      have kp0 := Blk.cell hP5 0
      have kp1 := Blk.cell hP5 1
      have kp2 := Blk.cell hP5 2
      have kp3 := Blk.cell hP5 3
      have kp4 := Blk.cell hP5 4
      simp only [List.getElem?_toArray, List.getElem?_cons_zero, List.getElem?_cons_succ] at kp0 kp1 kp2 kp3 kp4
      have hs5 := hb5'.size
      rcases hg : goodP ⟨op, d, a, b, imm⟩ with _ | _
      · have hno : l.all goodP = false := by
          rw [List.all_eq_false]
          exact ⟨_, List.mem_of_getElem? Hik.out, by rw [hg]; simp⟩
        have Hno := Lib.hid hno
        have Hb5' := Lib.hid hb5'
        have HP5 := Lib.hid hP5
        have HO5 := Lib.hid hO5
        have Hg := Lib.hid hg
        clear hg hO5 hP5 hb5' hno
        clear hb5 c0 c1 c2 c3 c4
        go_wp2_with fail
        go_ret2
        exact ⟨.inr ⟨Hno.out, rfl⟩, Hb5'.out⟩
      · obtain ⟨⟨d0, d1⟩, ⟨a0, a1⟩, ⟨b0, b1⟩⟩ := good_regs hg
        simp only at d0 d1 a0 a1 b0 b1
        obtain ⟨i1, i2⟩ := Hwf.out.imm
        simp only at i1 i2
        have Hb5' := Lib.hid hb5'
        have HP5 := Lib.hid hP5
        have HO5 := Lib.hid hO5
        have Hg := Lib.hid hg
        clear hg hO5 hP5 hb5'
        clear hb5 c0 c1 c2 c3 c4
        obtain ⟨v, hv⟩ : ∃ v, imm % 4294967296 = v := ⟨_, rfl⟩
        have hv0 : 0 ≤ v ∧ v < 4294967296 := by omega
        obtain ⟨v0, v1⟩ := hv0
        go_upto_region 8 with fail
        have hby : mbytes ⟨op, d, a, b, imm⟩ = [op, d, a, b, v % 256, v / 256 % 256, v / 65536 % 256, v / 16777216] := by
          have e : bytesLE 4 v = [v % 256, v / 256 % 256, v / 65536 % 256, v / 16777216] := by
            have : v / 16777216 % 256 = v / 16777216 := by omega
            simp [bytesLE, byteAt, List.range_succ, this]
          simp only [mbytes]
          rw [hv, e]; rfl
        have Hby := Lib.hid hby
        clear hby
        go_wp2_with (first
          | (at_builtin
             refine wpList_append_any _ rfl (.tmp 20) (.tmp 43) _ rfl w.heap.size 5 i0 _ 1 1 Try.underlying23 hi0 hz0 hz1 hz2 rfl (by omega) _ (8 * k) _ rfl (HO5.out.alloc _) (w5.heap.size + 1) (some ⟨w5.heap.size, 0, none⟩) 8 8 (byteVals [op, d, a, b, v % 256, v / 256 % 256, v / 65536 % 256, v / 16777216]) rfl ?c0 ?c1 ?c2 ?c3 ?c4 ?_
             case c0 => exact Reads.newS _ rfl _ _ _ _ _ rfl rfl
             case c1 => exact byteVals_one _
             case c2 => simp only [maxLen]; omega
             case c3 => omega
             case c4 => simp; omega
             intro v9 w9 hown9 hg9 hat9))
        have hb9 := (Hb5'.out.alloc (by omega) (.cells #[.int .u8 op, .int .u8 d, .int .u8 a, .int .u8 b, .int .u8 (v % 256), .int .u8 (v / 256 % 256), .int .u8 (v / 65536 % 256), .int .u8 (v / 16777216)] 5)).grown hg9 (by simp; omega) (fun g e => (HO5.out.lt g e).1)
        have hgd : ∀ i ∈ l.take (k + 1), goodP i = true := by
          rw [Htake.out]
          intro i hi
          rcases List.mem_append.1 hi with h | h
          · exact hgood.out i h
          · simp at h; rw [h]; exact Hg.out
        refine ⟨⟨k + 1, by omega, by go_num, ?_, hb9, hgd⟩, by simp [intOf]; omega⟩
        rw [Htake.out, List.flatMap_append, show ([⟨op, d, a, b, imm⟩] : List MInstD).flatMap mbytes = mbytes ⟨op, d, a, b, imm⟩ by simp, Hby.out, show 8 * (k + 1) = 8 * k + 8 by omega, byteVals, List.map_append, ← byteVals, ← byteVals]
        exact hown9
    · obtain rfl : k = n := by omega
      have hall : l.all goodP = true := by
        rw [List.all_eq_true]
        intro i hi
        exact hgood.out i (by rw [List.take_of_length_le (by have := Hl.out; omega)]; exact hi)
      rw [List.take_of_length_le (by have := Hl.out; omega)] at hown
      have Hall := Lib.hid hall
      have Hown := Lib.hid hown
      have Hbw := Lib.hid hbw
      clear hbw hown hall
      go_wp2_with fail
      go_ret2
      exact ⟨.inl ⟨Hall.out, _, rfl, Hown.out⟩, Hbw.out⟩
end Go.Proofs.Ytnnlhhokljjghaa
